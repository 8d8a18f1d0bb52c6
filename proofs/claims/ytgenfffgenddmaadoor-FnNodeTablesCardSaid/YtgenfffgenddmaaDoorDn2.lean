/- A drawn node table. -/
import Derived.Test.YtgenfffgenddmaaDoorDn
import Derived.Deep.AppendLies
namespace Go.Proofs.YtgenfffgenddmaaDoor
open Go.RowKit
set_option linter.unusedSimpArgs false
set_option linter.unusedVariables false
def SzStr2 (w : World) (e : Ending) (w' : World) : Prop := ∃ s : ByteArray, e = .returned (.string s) ∧ s.size ≤ 2 ∧ Below w.heap.size w w'
theorem s_l01DecU (k : Int) (w : World) (h0 : 0 ≤ k) (h1 : k < 100) : Calls Tryd.prog 89 #[.int .i64 k] w (SzStr2 w) := by
  by_cases h : k < 10
  · exact (s_l01Dec1 k w h0 h).mono fun e w' ⟨s, he, hs, hb⟩ => ⟨s, he, by omega, hb⟩
  · exact (s_l01Dec2 k w (by omega) h1).mono fun e w' ⟨s, he, hs, hb⟩ => ⟨s, he, by omega, hb⟩
theorem wpList_appN (w : World) {ops : Array Oper} {rest : List Oper} {o : Oper} {a : Act} {Q : Exit → Act → World → Prop} (hgd : o.guard = none) (s x : Operand)
    (ho : o.op = .call { callee := .builtin .append, args := #[s, x], argTypes := #[23, 23] })
    (base : Nat) (v : Value) (L : List Nd) (hs : a.eval s = v) (hown : NOwn w base v L) (g1 c : Nat) (d : Nd) (hx : a.eval x = .slice (some ⟨g1, 0, none⟩) 1 c) (hr : w.heap[g1]? = some (.cells d.cells 36 (0, 0)))
    (hn : L.length ≤ 1000) (hbase : base ≤ w.heap.size)
    (h : ∀ v' w', NOwn w' base v' (L ++ [d]) → w.grownBy w' v.ownBlock → wpList Tryd.prog ops Q rest (a.put o.dst v') w') : wpList Tryd.prog ops Q (o :: rest) a w := by
  obtain ⟨i, hi, hz0, hz1, hz2⟩ := info_parts node_info
  obtain ⟨v', w', hrun, h2, h3, _, h5⟩ := run_append_own_at (P := Tryd.prog) w base 23 o.type 36 i (.agg #[.int .i64 0, .string ⟨#[]⟩, .int .i64 0, .bool false]) 4 40 Tryd.underlying23 hi hz0 hz1 hz2 rfl (by omega) v _ _ hown ⟨g1, 0, none⟩ 1 c d.cells.toList (by simp [Nd.cells]) (World.news_of_block hr)
    (by simp [Nd.cells, Value.oneCell']) (by unfold maxLen; omega) (by omega) hbase
  refine wpList_plain hgd fun _ hK => ?_
  unfold Oper.wp execOp
  simp only [ho, resolve, invoke, builtin, Sem.run_bind, Sem.run_pure, Result.andThen_ok, List.map_toArray, List.map_cons, List.map_nil, hs, hx, hrun]
  refine hK _ _ (h v' w' ?_ h3)
  unfold NOwn
  have e : nodeVals (L ++ [d]) = nodeVals L ++ d.cells.toList := by simp [nodeVals]
  rw [e, List.length_append]
  exact h2
/-- What is known while a table is drawn. -/
structure NS (w : World) (B g : Nat) (W : World) (v : Value) (L : List Nd) : Prop where
  s : Src W B g
  o : NOwn W w.heap.size v L
  gr : w.grownBy W (some g)
section
variable {w W W' : World} {B g : Nat} {v v' : Value} {L L' : List Nd}
theorem NS.next (h : NS w B g W v L) (hl : g < w.heap.size) (S' : Src W' B g) (g' : W.grownBy W' (some g)) : NS w B g W' v L :=
  ⟨S', World.ownsRow.kept h.o g' (.inr fun e => by have := (h.o.lt _ e).1; omega), grown_trans' h.gr g' (.inl rfl)⟩
theorem NS.below (h : NS w B g W v L) (hb : Below W.heap.size W W') : NS w B g W' v L :=
  ⟨h.s.below hb, h.o.below_ hb, grown_trans' h.gr (grown_of_below hb (some g)) (.inl rfl)⟩
theorem NS.alloc (h : NS w B g W v L) (o : Obj) : NS w B g (W.alloc o) v L := h.below ((Below.refl _ _).alloc (Nat.le_refl _) o)
theorem NS.put (h : NS w B g W v L) (hl : g < w.heap.size) (hg : W.grownBy W' v.ownBlock) (hO : NOwn W' w.heap.size v' L') : NS w B g W' v' L' :=
  ⟨h.s.kept hg (fun e => by have := (h.o.lt _ e).1; omega) (fun k hk => by have := (h.o.lt _ hk).1; have := h.s.1; omega), hO, grown_trans' h.gr hg (.inr fun k hk => (h.o.lt _ hk).1)⟩
theorem NS.size (h : NS w B g W v L) : w.heap.size ≤ W.heap.size := h.gr.size
end
def nmSm (L : List Nd) : Prop := ∀ d ∈ L, d.nm.size ≤ 30
def DrewT (B g : Nat) (w : World) (m : Nat) (e : Ending) (w' : World) : Prop := ∃ (v : Value) (L : List Nd), e = .returned v ∧ NS w B g w' v L ∧ m ≤ L.length ∧ L.length ≤ 7 - m ∧ nmSm L
set_option maxHeartbeats 4000000 in
set_option maxRecDepth 100000 in
theorem s_l10Draw (g B : Nat) (w : World) (h : Src w B g) :
    Calls Tryd.prog 67 #[.pointer (some ⟨g, 0, none⟩)] w (DrewT B g w 1) := by
  have hl := h.lt
  have hO : NOwn (w.alloc (.cells #[] 36)) w.heap.size (.slice (some ⟨w.heap.size, 0, none⟩) 0 0) [] := World.ownsRow_lit (e := 36) (size := 4) w #[] 0 (Nat.le_refl _) (by unfold maxLen; omega) (by simp)
  have N0 : NS w B g (w.alloc (.cells #[] 36)) (.slice (some ⟨w.heap.size, 0, none⟩) 0 0) [] := ⟨h.alloc _, hO, grown_alloc (World.grownBy.refl _ _) _⟩
  clear hO
  go_enter Tryd.func67, Tryd.ntmps67
  go_wp2_with fail
  refine (s_l01Next g B 2 _ N0.s).mono ?_
  rintro e w1 ⟨r1, rfl, r1a, r1b, S1, g1⟩
  have N1 := N0.next hl S1 g1
  clear N0 S1 g1 h
  go_wp2_with fail
  refine (s_l01Next g B 4 _ N1.s).mono ?_
  rintro e w2 ⟨r2, rfl, r2a, r2b, S2, g2⟩
  have N2 := Lib.hid (N1.next hl S2 g2)
  clear N1 S2 g2
  have hw1 : IntKind.i64.wrap (1 + r2) = 1 + r2 := IntWalk.i64_in _ (by omega)
  generalize Value.slice (some ⟨w.heap.size, 0, none⟩) 0 0 = v0 at *
  go_wp2
  go_loopw [3, 4, 5] (fun v i lf wr => ∃ (L : List Nd) (x y : Int), i = .int .i64 x ∧ lf = .int .i64 y ∧ 0 ≤ x ∧ 0 ≤ y ∧ x + 3 * y ≤ 14 ∧ 1 ≤ L.length + y.toNat ∧ L.length + y.toNat ≤ 5 ∧ Hid (nmSm L) ∧ Hid (NS w B g wr v L)) (fun _ _ lf _ => (intOf lf).toNat)
  case atStart => exact ⟨[], r1, 1 + r2, rfl, rfl, r1a, by omega, by omega, by simp; omega, by simp; omega, Lib.hid (by intro d hd; cases hd), N2⟩
  case round =>
    clear N2
    obtain ⟨L, x, y, rfl, rfl, x0, y0, xy, l0, l1, hnm, hN⟩ := hrel
    by_cases hy : 0 < y
    · have N := hN.out
      have hw2 : IntKind.i64.wrap (x + 1) = x + 1 := IntWalk.i64_in _ (by omega)
      go_wp2_with fail
      refine (s_l01DecU x wr x0 (by omega)).mono ?_
      rintro e w3 ⟨s, rfl, hs, b3⟩
      have N3 := N.below b3
      have hz : ¬ 9223372036854775807 < 1 + s.size := by omega
      clear N b3 hN
      go_wp2_with fail
      refine (s_l01Next g B 200 _ N3.s).mono ?_
      rintro e w4 ⟨r4, rfl, r4a, r4b, S4, g4⟩
      have N4 := N3.next hl S4 g4
      clear N3 S4 g4
      go_wp2_with fail
      refine (s_l01Next g B 5 _ N4.s).mono ?_
      rintro e w5 ⟨r5, rfl, r5a, r5b, S5, g5⟩
      have N5 := N4.next hl S5 g5
      have z5 := N5.size
      clear N4 S5 g5
      go_wp2_with (at_builtin; refine wpList_appN _ rfl _ _ rfl w.heap.size _ L rfl (N5.alloc _).o _ _ ⟨x, ⟨#[110]⟩ ++ s, r4, _⟩ rfl (heap_alloc_new _ _) (by omega) (by rw [World.size_alloc]; omega) ?_; intro v6 w6 O6 g6)
      have N6 := (N5.alloc _).put hl g6 O6
      have HM := Lib.hid (show nmSm (L ++ [⟨x, ⟨#[110]⟩ ++ s, r4, r5 == 0⟩]) by
        intro d hd
        rcases List.mem_append.1 hd with hd | hd
        · exact hnm.out d hd
        · have : d = ⟨x, ⟨#[110]⟩ ++ s, r4, r5 == 0⟩ := by simpa using hd
          subst this
          show (⟨#[110]⟩ ++ s : ByteArray).size ≤ 30
          rw [ByteArray.size_append]
          show 1 + s.size ≤ 30
          omega)
      have hln : (L ++ [(⟨x, ⟨#[110]⟩ ++ s, r4, r5 == 0⟩ : Nd)]).length = L.length + 1 := by simp
      generalize L ++ [(⟨x, ⟨#[110]⟩ ++ s, r4, r5 == 0⟩ : Nd)] = L2 at *
      clear N5 O6 g6 z5
      refine (s_l01Next g B 3 _ N6.s).mono ?_
      rintro e w7 ⟨r7, rfl, r7a, r7b, S7, g7⟩
      have N7 := Lib.hid (N6.next hl S7 g7)
      clear N6 S7 g7
      go_wp2
      go_roundw
      case rel => exact ⟨L2, x + 1 + r7, y - 1, by go_num, by go_num, by omega, by omega, by omega, by omega, by omega, HM, N7⟩
      case measure => simp [intOf]; omega
    · have N := hN.out
      go_wp2
      go_ret
      exact ⟨_, L, rfl, N, by omega, by omega, hnm.out⟩
end Go.Proofs.YtgenfffgenddmaaDoor

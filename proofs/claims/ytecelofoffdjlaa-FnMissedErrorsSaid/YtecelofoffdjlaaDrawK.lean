/- The draws of BodySize's and KindOfHead's arguments. -/
import Derived.Test.YtecelofoffdjlaaDraw
import Derived.Deep.RegionHeld3
import Derived.RegionTactic
import Derived.Deep.Cut
namespace Go.Proofs.Ytecelofoffdjlaa
open Go.RowKit
set_option linter.unusedSimpArgs false
set_option linter.unusedVariables false
theorem Src.drew {w : World} {B g : Nat} (h : Src w B g) : Src w.drew B g := h
theorem Below.ltK {w : World} {g : Nat} {o : Obj} (h : w.heap[g]? = some o) : g < w.heap.size := by
  rcases Nat.lt_or_ge g w.heap.size with hlt | hge
  · exact hlt
  · rw [Array.getElem?_eq_none hge] at h; cases h
theorem nat_of' (m : Int) (h0 : 0 ≤ m) : ∃ a : Nat, m = a := ⟨m.toNat, by omega⟩
theorem src_below' {w w1 w2 : World} {g : Nat} (hb : Below w.heap.size w w1) (hg : w1.grownBy w2 (some g)) (hgg : w.heap.size ≤ g) : Below w.heap.size w w2 :=
  hb.trans (grown_below hg hb.size (fun k hk => by injection hk with hk; omega))
theorem results_pair {fn : Func} {t u : Tmp} (h : fn.results = #[.tmp t, .tmp u]) (tmps : Array Value) (P : Program) (w : World) :
    (results fn tmps).run P w = .ok (.tuple #[tmps.getD t undef, tmps.getD u undef]) w := by simp [results, h]
theorem znew {w w' : World} {o : Obj} {g : Nat} (hg : (w.alloc o).grownBy w' (some g)) (hl : g < w.heap.size) : w'.heap[w.heap.size]? = some o :=
  (hg.block w.heap.size (by simp) (by intro e; injection e with e; omega)).trans (heap_alloc_new w o)
theorem znew_d {w w' : World} {o : Obj} {g : Nat} (hg : (w.alloc o).drew.grownBy w' (some g)) (hl : g < w.heap.size) : w'.heap[w.heap.size]? = some o :=
  znew (w := w) (o := o) ⟨hg.os, hg.tape, hg.output, hg.size, hg.block⟩ hl
theorem znew_d2 {w w' : World} {o : Obj} {g : Nat} (hg : (w.drew.alloc o).grownBy w' (some g)) (hl : g < w.heap.size) : w'.heap[w.heap.size]? = some o :=
  znew (w := w) (o := o) ⟨hg.os, hg.tape, hg.output, hg.size, hg.block⟩ hl
theorem znew_d3 {w w' : World} {o : Obj} {g : Nat} (hg : (w.drew.alloc o).drew.grownBy w' (some g)) (hl : g < w.heap.size) : w'.heap[w.heap.size]? = some o :=
  znew (w := w) (o := o) ⟨hg.os, hg.tape, hg.output, hg.size, hg.block⟩ hl
theorem zkeep {w w' : World} {o : Obj} {b g : Nat} (z : w.heap[b]? = some o) (hg : w.grownBy w' (some g)) (hl : g ≠ b) : w'.heap[b]? = some o :=
  (hg.block b (Below.ltK z) (by intro e; injection e with e; exact hl e.symm)).trans z
theorem zkeep_d {w w' : World} {o : Obj} {b g : Nat} (z : w.heap[b]? = some o) (hg : w.drew.grownBy w' (some g)) (hl : g ≠ b) : w'.heap[b]? = some o :=
  zkeep z ⟨hg.os, hg.tape, hg.output, hg.size, hg.block⟩ hl
def DrewInt (w : World) (e : Ending) (w' : World) : Prop := ∃ r : Int, e = .returned (.int .i64 r) ∧ Below w.heap.size w w'
theorem s_DrawKindOfHead (A : Option Addr) (n c : Nat) (bs : List Int) (B : Nat) (w : World) (h : BytesAt w B A n c bs) (hB : B ≤ w.heap.size) :
    Calls Try.prog 48 #[.slice A n c] w (DrewInt w) := by
  go_enter Try.func48, Try.ntmps48
  go_wp2_with fail
  refine (s_l01From _ _ _ _ _ _ h hB).mono ?_
  rintro e w1 ⟨g, rfl, S1, hg, hb⟩
  go_wp2_with fail
  refine (s_l01Next _ _ _ _ S1).mono ?_
  rintro e w2 ⟨r, rfl, _, _, S2, g2⟩
  go_wp2
  go_ret
  exact ⟨_, rfl, src_below' hb g2 hg⟩
theorem six_get (q : Nat) (h : (q : Int) < 6) : ∃ v : Int, (#[Value.int .i64 0, Value.int .i64 1, Value.int .i64 5, Value.int .i64 32, Value.int .i64 33, Value.int .i64 (-1)] : Array Value)[q]? = some (.int .i64 v) ∧ ([Value.int .i64 0, Value.int .i64 1, Value.int .i64 5, Value.int .i64 32, Value.int .i64 33, Value.int .i64 (-1)] : List Value)[q]? = some (.int .i64 v) := by
  have h' : q < 6 := by omega
  match q, h' with
  | 0, _ => exact ⟨0, rfl, rfl⟩
  | 1, _ => exact ⟨1, rfl, rfl⟩
  | 2, _ => exact ⟨5, rfl, rfl⟩
  | 3, _ => exact ⟨32, rfl, rfl⟩
  | 4, _ => exact ⟨33, rfl, rfl⟩
  | 5, _ => exact ⟨-1, rfl, rfl⟩
theorem row_get {w : World} {b q : Nat} {xs : Array Value} {t : TypeId} {x : Value} (h : w.heap[b]? = some (.cells xs t (0, 0))) (hx : xs[q]? = some x) : w.cell? ⟨b, q, none⟩ = some x := (cell_of_row _ _ _ _ _ _ h).trans hx
def Drew2 (w : World) (e : Ending) (w' : World) : Prop := ∃ a b : Int, e = .returned (.tuple #[.int .i64 a, .int .i64 b]) ∧ Below w.heap.size w w'
theorem grown_new {w X w' : World} {g : Nat} (h : w.grownBy X (some g)) (hc : X.grownBy w' (some g)) : w.grownBy w' (some g) := grown_trans' h hc (.inl rfl)
set_option maxRecDepth 4000 in
set_option maxHeartbeats 4000000 in
theorem s_DrawBodySize (A : Option Addr) (n c : Nat) (bs : List Int) (B : Nat) (w : World) (h : BytesAt w B A n c bs) (hB : B ≤ w.heap.size) :
    Calls Try.prog 41 #[.slice A n c] w (Drew2 w) := by
  go_enter Try.func41, Try.ntmps41
  go_wp2_with fail
  refine (s_l01From _ _ _ _ _ _ h hB).mono ?_
  rintro e w1 ⟨g, rfl, S1, hg, hb⟩
  have z1 := hb.size
  have l1 := S1.lt
  clear h hB
  go_upto_region 2 with fail
  go_region_with ((go_at_call 99; (first | (have chk := S3; clear chk; refine (s_l01Next g B 6 _ (by first | with_reducible exact S3 | with_reducible exact S3.drew | with_reducible exact S3.alloc _ | with_reducible exact (S3.alloc _).drew | with_reducible exact S3.drew.alloc _ | with_reducible exact (S3.drew.alloc _).drew)).mono ?_; rintro e w4 ⟨r4, rfl, b40, b41, S4, g4⟩; (first | (with_reducible have ZR := zkeep ZR g4 (by omega)) | (with_reducible have ZR := zkeep_d ZR g4 (by omega)) | (with_reducible have ZR := znew g4 l3) | (with_reducible have ZR := znew_d g4 l3) | (with_reducible have ZR := znew_d2 g4 l3) | (with_reducible have ZR := znew_d3 g4 l3) | skip); obtain ⟨q4, rfl⟩ := nat_of' r4 b40; have b42 : (0 : Int) ≤ (q4 : Int) := b40; have b43 : (q4 : Int) < 6 := (by omega); obtain ⟨v4, hv1, hv2⟩ := six_get q4 b43; (try (with_reducible have hv3 := row_get ZR hv1; clear hv1 hv2)); have G4 := grown_new (w := w1) (grown_new (w := w1) G3 (by first | with_reducible exact (World.grownBy.refl _ _) | with_reducible exact grown_drew (World.grownBy.refl _ _) | with_reducible exact grown_alloc (World.grownBy.refl _ _) _ | with_reducible exact grown_drew (grown_alloc (World.grownBy.refl _ _) _) | with_reducible exact grown_alloc (grown_drew (World.grownBy.refl _ _)) _ | with_reducible exact grown_drew (grown_alloc (grown_drew (World.grownBy.refl _ _)) _))) g4; clear b41) | (have chk := S2; clear chk; refine (s_l01Next g B 12 _ (by first | with_reducible exact S2 | with_reducible exact S2.drew | with_reducible exact S2.alloc _ | with_reducible exact (S2.alloc _).drew | with_reducible exact S2.drew.alloc _ | with_reducible exact (S2.drew.alloc _).drew)).mono ?_; rintro e w3 ⟨r3, rfl, b30, b31, S3, g3⟩; (first | (with_reducible have ZR := zkeep ZR g3 (by omega)) | (with_reducible have ZR := zkeep_d ZR g3 (by omega)) | (with_reducible have ZR := znew g3 l2) | (with_reducible have ZR := znew_d g3 l2) | (with_reducible have ZR := znew_d2 g3 l2) | (with_reducible have ZR := znew_d3 g3 l2) | skip); have l3 := S3.lt; have G3 := grown_new (w := w1) (grown_new (w := w1) G2 (by first | with_reducible exact (World.grownBy.refl _ _) | with_reducible exact grown_drew (World.grownBy.refl _ _) | with_reducible exact grown_alloc (World.grownBy.refl _ _) _ | with_reducible exact grown_drew (grown_alloc (World.grownBy.refl _ _) _) | with_reducible exact grown_alloc (grown_drew (World.grownBy.refl _ _)) _ | with_reducible exact grown_drew (grown_alloc (grown_drew (World.grownBy.refl _ _)) _))) g3; clear b31) | (refine (s_l01Next g B 6 _ (by first | with_reducible exact S1 | with_reducible exact S1.drew | with_reducible exact S1.alloc _ | with_reducible exact (S1.alloc _).drew | with_reducible exact S1.drew.alloc _ | with_reducible exact (S1.drew.alloc _).drew)).mono ?_; rintro e w2 ⟨r2, rfl, b20, b21, S2, g2⟩; (first | (with_reducible have ZR := zkeep ZR g2 (by omega)) | (with_reducible have ZR := zkeep_d ZR g2 (by omega)) | (with_reducible have ZR := znew g2 l1) | (with_reducible have ZR := znew_d g2 l1) | (with_reducible have ZR := znew_d2 g2 l1) | (with_reducible have ZR := znew_d3 g2 l1) | skip); have l2 := S2.lt; have G2 := grown_new (w := w1) (by first | with_reducible exact (World.grownBy.refl _ _) | with_reducible exact grown_drew (World.grownBy.refl _ _) | with_reducible exact grown_alloc (World.grownBy.refl _ _) _ | with_reducible exact grown_drew (grown_alloc (World.grownBy.refl _ _) _) | with_reducible exact grown_alloc (grown_drew (World.grownBy.refl _ _)) _ | with_reducible exact grown_drew (grown_alloc (grown_drew (World.grownBy.refl _ _)) _)) g2; clear b21))))
  all_goals (try go_wp2)
  all_goals exact bodyPost_ret (results_pair rfl _ _ _) rfl ⟨_, _, rfl, src_below' hb (by first | with_reducible exact G4 | with_reducible exact grown_drew G4 | with_reducible exact grown_alloc G4 _ | with_reducible exact grown_drew (grown_alloc G4 _) | with_reducible exact grown_alloc (grown_drew G4) _ | with_reducible exact grown_drew (grown_alloc (grown_drew G4) _)) hg⟩
end Go.Proofs.Ytecelofoffdjlaa

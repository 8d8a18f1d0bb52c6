/- The draw of IsMajority's arguments; the walk of the law on cliques. -/
import Derived.Test.YtjheanonklgbcaaDrawV
import Derived.Test.YtjheanonklgbcaaDice
import Derived.Test.YtjheanonklgbcaaVec2
import Derived.Deep.RegionHeld3
import Derived.RegionTactic
import Derived.Deep.Cut
namespace Go.Proofs.Ytjheanonklgbcaa
open Go.RowKit
set_option linter.unusedSimpArgs false
set_option linter.unusedVariables false
theorem cliq_mem (xs : List Int) (v : Int) (n q : Nat) : ((q : Int) ∈ cliqL xs v n) ↔ (q < n ∧ xs.getD q 0 = v) := by
  unfold cliqL
  simp only [List.mem_map, List.mem_filter, List.mem_range, decide_eq_true_eq]
  constructor
  · rintro ⟨j, ⟨h1, h2⟩, h3⟩
    have : j = q := by omega
    subst this; exact ⟨h1, h2⟩
  · rintro ⟨h1, h2⟩; exact ⟨q, ⟨h1, h2⟩, rfl⟩
theorem cliq_law (xs : List Int) (node : Int) (q : Nat) (h : cliqOk xs node = true) (hq : q < xs.length) :
    cliqC xs q = 0 ∧ eqL (cliqR xs q) (cliqR xs node) = hasL (cliqR xs node) q := by
  have h' := h
  simp only [cliqOk, Bool.and_eq_true, decide_eq_true_eq] at h'
  have hok : cliqOk xs (q : Int) = true := by
    simp only [cliqOk, Bool.and_eq_true, decide_eq_true_eq]
    exact ⟨h'.1, by omega, by omega⟩
  refine ⟨by simp [cliqC, hok], ?_⟩
  unfold cliqR
  rw [if_pos hok, if_pos h, Int.toNat_natCast]
  rw [Bool.eq_iff_iff]
  simp only [eqL, hasL, decide_eq_true_eq]
  rw [cliq_mem]
  constructor
  · intro e
    have h1 : (q : Int) ∈ cliqL xs (xs.getD q 0) xs.length := (cliq_mem _ _ _ _).2 ⟨hq, rfl⟩
    rw [e] at h1
    exact (cliq_mem _ _ _ _).1 h1
  · rintro ⟨_, e⟩
    rw [e]
theorem maj_not (a r : Int) (h : majB a r = true) : majB r a = false := by
  simp only [majB, decide_eq_true_eq] at h
  simp only [majB, decide_eq_false_iff_not]
  omega
def DrewPair (w : World) (e : Ending) (w' : World) : Prop := ∃ a b : Int, e = .returned (.tuple #[.int .i64 a, .int .i64 b]) ∧ Below w.heap.size w w'
theorem Below.lt_of' {w : World} {g : Nat} {o : Obj} (h : w.heap[g]? = some o) : g < w.heap.size := by
  rcases Nat.lt_or_ge g w.heap.size with hlt | hge
  · exact hlt
  · rw [Array.getElem?_eq_none hge] at h; cases h
theorem Src.drew {w : World} {B g : Nat} (h : Src w B g) : Src w.drew B g := h
theorem nat_of' (m : Int) (h0 : 0 ≤ m) : ∃ a : Nat, m = a := ⟨m.toNat, by omega⟩
theorem src_below' {w w1 w2 : World} {g : Nat} (hb : Below w.heap.size w w1) (hg : w1.grownBy w2 (some g)) (hgg : w.heap.size ≤ g) : Below w.heap.size w w2 :=
  hb.trans (grown_below hg hb.size (fun k hk => by injection hk with hk; omega))
theorem znew {w w' : World} {o : Obj} {g : Nat} (hg : (w.alloc o).grownBy w' (some g)) (hl : g < w.heap.size) : w'.heap[w.heap.size]? = some o :=
  (hg.block w.heap.size (by simp) (by intro e; injection e with e; omega)).trans (heap_alloc_new w o)
theorem znew_d {w w' : World} {o : Obj} {g : Nat} (hg : (w.alloc o).drew.grownBy w' (some g)) (hl : g < w.heap.size) : w'.heap[w.heap.size]? = some o :=
  znew (w := w) (o := o) ⟨hg.os, hg.tape, hg.output, hg.size, hg.block⟩ hl
theorem znew_d2 {w w' : World} {o : Obj} {g : Nat} (hg : (w.drew.alloc o).grownBy w' (some g)) (hl : g < w.heap.size) : w'.heap[w.heap.size]? = some o :=
  znew (w := w) (o := o) ⟨hg.os, hg.tape, hg.output, hg.size, hg.block⟩ hl
theorem znew_d3 {w w' : World} {o : Obj} {g : Nat} (hg : (w.drew.alloc o).drew.grownBy w' (some g)) (hl : g < w.heap.size) : w'.heap[w.heap.size]? = some o :=
  znew (w := w) (o := o) ⟨hg.os, hg.tape, hg.output, hg.size, hg.block⟩ hl
theorem zkeep {w w' : World} {o : Obj} {b g : Nat} (z : w.heap[b]? = some o) (hg : w.grownBy w' (some g)) (hl : g ≠ b) : w'.heap[b]? = some o :=
  (hg.block b (Below.lt_of' z) (by intro e; injection e with e; exact hl e.symm)).trans z
theorem zkeep_d {w w' : World} {o : Obj} {b g : Nat} (z : w.heap[b]? = some o) (hg : w.drew.grownBy w' (some g)) (hl : g ≠ b) : w'.heap[b]? = some o :=
  zkeep z ⟨hg.os, hg.tape, hg.output, hg.size, hg.block⟩ hl
theorem row_get {w : World} {b q : Nat} {xs : Array Value} {t : TypeId} {x : Value} (h : w.heap[b]? = some (.cells xs t (0, 0))) (hx : xs[q]? = some x) : w.cell? ⟨b, q, none⟩ = some x := (cell_of_row _ _ _ _ _ _ h).trans hx
theorem grown_new {w X w' : World} {g : Nat} (h : w.grownBy X (some g)) (hc : X.grownBy w' (some g)) : w.grownBy w' (some g) := grown_trans' h hc (.inl rfl)
set_option maxRecDepth 4000 in
set_option maxHeartbeats 4000000 in
theorem results_pair {fn : Func} {t u : Tmp} (h : fn.results = #[.tmp t, .tmp u]) (tmps : Array Value) (P : Program) (w : World) :
    (results fn tmps).run P w = .ok (.tuple #[tmps.getD t undef, tmps.getD u undef]) w := by simp [results, h]
theorem znew2 {w w' : World} {o1 o2 : Obj} {g : Nat} (hg : ((w.alloc o1).alloc o2).grownBy w' (some g)) (hl : g < w.heap.size) : w'.heap[w.heap.size]? = some o1 ∧ w'.heap[w.heap.size + 1]? = some o2 := by
  refine ⟨(hg.block w.heap.size (by simp; omega) (by intro e; injection e with e; omega)).trans ((Below.heap_alloc _ _ w.heap.size (by simp)).trans (heap_alloc_new w o1)), ?_⟩
  have h2 := heap_alloc_new (w.alloc o1) o2
  rw [show (w.alloc o1).heap.size = w.heap.size + 1 by simp] at h2
  exact (hg.block (w.heap.size + 1) (by simp) (by intro e; injection e with e; omega)).trans h2
theorem znew2_d {w w' : World} {o1 o2 : Obj} {g : Nat} (hg : ((w.drew.alloc o1).alloc o2).grownBy w' (some g)) (hl : g < w.heap.size) : w'.heap[w.heap.size]? = some o1 ∧ w'.heap[w.heap.size + 1]? = some o2 :=
  znew2 (w := w) (o1 := o1) (o2 := o2) ⟨hg.os, hg.tape, hg.output, hg.size, hg.block⟩ hl
theorem znew2_m {w w' : World} {o1 o2 : Obj} {g : Nat} (hg : ((w.alloc o1).drew.alloc o2).grownBy w' (some g)) (hl : g < w.heap.size) : w'.heap[w.heap.size]? = some o1 ∧ w'.heap[w.heap.size + 1]? = some o2 :=
  znew2 (w := w) (o1 := o1) (o2 := o2) ⟨hg.os, hg.tape, hg.output, hg.size, hg.block⟩ hl
theorem znew2_e {w w' : World} {o1 o2 : Obj} {g : Nat} (hg : ((w.alloc o1).alloc o2).drew.grownBy w' (some g)) (hl : g < w.heap.size) : w'.heap[w.heap.size]? = some o1 ∧ w'.heap[w.heap.size + 1]? = some o2 :=
  znew2 (w := w) (o1 := o1) (o2 := o2) ⟨hg.os, hg.tape, hg.output, hg.size, hg.block⟩ hl
theorem zkeepA {w w' : World} {o : Obj} {b g : Nat} (z : w.heap[b]? = some o) (hg : w.grownBy w' (some g)) (hl : g ≠ b) : w'.heap[b]? = some o :=
  (hg.block b (Below.lt_of' z) (by intro e; injection e with e; exact hl e.symm)).trans z
theorem lit_two {w : World} {q : Nat} {xs : Array Value} {t : TypeId} {o : Obj} {x : Value} (hx : xs[q]? = some x) : ((w.alloc (.cells xs t)).alloc o).cell? ⟨w.heap.size, q, none⟩ = some x :=
  row_get ((Below.heap_alloc _ o w.heap.size (by simp)).trans (heap_alloc_new w (.cells xs t))) hx
theorem lit_two' {w : World} {q : Nat} {xs : Array Value} {t : TypeId} {o : Obj} {x : Value} (hx : xs[q]? = some x) : ((w.alloc o).alloc (.cells xs t)).cell? ⟨w.heap.size + 1, q, none⟩ = some x := by
  have h := heap_alloc_new (w.alloc o) (.cells xs t)
  rw [show (w.alloc o).heap.size = w.heap.size + 1 by simp] at h
  exact row_get h hx
theorem get4 (q : Nat) (h : (q : Int) < 4) : ∃ v : Int, (#[Value.int .i64 (-1), Value.int .i64 0, Value.int .i64 256, Value.int .i64 257] : Array Value)[q]? = some (.int .i64 v) ∧ ([Value.int .i64 (-1), Value.int .i64 0, Value.int .i64 256, Value.int .i64 257] : List Value)[q]? = some (.int .i64 v) := by
  have h' : q < 4 := by omega
  match q, h' with
  | 0, _ => exact ⟨-1, rfl, rfl⟩
  | 1, _ => exact ⟨0, rfl, rfl⟩
  | 2, _ => exact ⟨256, rfl, rfl⟩
  | 3, _ => exact ⟨257, rfl, rfl⟩
theorem get3 (q : Nat) (h : (q : Int) < 3) : ∃ v : Int, (#[Value.int .i64 (-1), Value.int .i64 0, Value.int .i64 256] : Array Value)[q]? = some (.int .i64 v) ∧ ([Value.int .i64 (-1), Value.int .i64 0, Value.int .i64 256] : List Value)[q]? = some (.int .i64 v) := by
  have h' : q < 3 := by omega
  match q, h' with
  | 0, _ => exact ⟨-1, rfl, rfl⟩
  | 1, _ => exact ⟨0, rfl, rfl⟩
  | 2, _ => exact ⟨256, rfl, rfl⟩
set_option maxRecDepth 4000 in
set_option maxHeartbeats 8000000 in
theorem s_DrawIsMajority (A : Option Addr) (n c : Nat) (bs : List Int) (B : Nat) (w : World) (h : BytesAt w B A n c bs) (hB : B ≤ w.heap.size) :
    Calls Try.prog 43 #[.slice A n c] w (DrewPair w) := by
  go_enter Try.func43, Try.ntmps43
  go_wp2_with fail
  refine (s_l01From _ _ _ _ _ _ h hB).mono ?_
  rintro e w1 ⟨g, rfl, S1, hg, hb⟩
  have z1 := hb.size
  have l1 := S1.lt
  clear h hB
  go_wp2_with fail
  refine (s_l01Next _ _ 8 _ S1).mono ?_
  rintro e w2 ⟨r2, rfl, b20, b21, S2, g2⟩
  have l2 := S2.lt
  have G2 : w1.grownBy w2 (some g) := g2
  clear g2 b20 b21
  cases hr : (r2 == 0)
  · go_wp2_with fail
    refine (s_l01Next _ _ 12 _ S2).mono ?_
    rintro e w3 ⟨r3, rfl, _, _, S3, g3⟩
    go_wp2_with fail
    refine (s_l01Next _ _ 12 _ S3).mono ?_
    rintro e w4 ⟨r4, rfl, _, _, S4, g4⟩
    go_wp2
    exact bodyPost_ret (results_pair rfl _ _ _) rfl ⟨_, _, rfl, src_below' hb (grown_trans' (grown_trans' G2 g3 (.inl rfl)) g4 (.inl rfl)) hg⟩
  · clear S1 l1
    go_upto_region 3 with fail
    go_region_with ((go_at_call 75; (first | (have chk := S3; clear chk; refine (s_l01Next g B 3 _ (by first | with_reducible exact S3 | with_reducible exact S3.drew | with_reducible exact S3.alloc _ | with_reducible exact S3.drew.alloc _ | with_reducible exact (S3.alloc _).drew | with_reducible exact (S3.alloc _).alloc _ | with_reducible exact (S3.drew.alloc _).alloc _ | with_reducible exact ((S3.alloc _).drew).alloc _ | with_reducible exact ((S3.alloc _).alloc _).drew)).mono ?_; rintro e w4 ⟨r4, rfl, b40, b41, S4, g4⟩; have GB : w3.grownBy w4 (some g) := grown_new (w := w3) (by first | with_reducible exact (World.grownBy.refl _ _) | with_reducible exact grown_drew (World.grownBy.refl _ _) | with_reducible exact grown_alloc (World.grownBy.refl _ _) _ | with_reducible exact grown_alloc (grown_drew (World.grownBy.refl _ _)) _ | with_reducible exact grown_drew (grown_alloc (World.grownBy.refl _ _) _) | with_reducible exact grown_alloc (grown_alloc (World.grownBy.refl _ _) _) _ | with_reducible exact grown_alloc (grown_alloc (grown_drew (World.grownBy.refl _ _)) _) _ | with_reducible exact grown_alloc (grown_drew (grown_alloc (World.grownBy.refl _ _) _)) _ | with_reducible exact grown_drew (grown_alloc (grown_alloc (World.grownBy.refl _ _) _) _)) g4; (first | (with_reducible have Z1' := zkeepA Z1 GB (by omega)) | skip); (first | (with_reducible have Z2' := zkeepA Z2 GB (by omega)) | skip); (first | (with_reducible have Y12 := znew2 g4 l3; obtain ⟨Y1, Y2⟩ := Y12) | (with_reducible have Y12 := znew2_d g4 l3; obtain ⟨Y1, Y2⟩ := Y12) | (with_reducible have Y12 := znew2_m g4 l3; obtain ⟨Y1, Y2⟩ := Y12) | (with_reducible have Y12 := znew2_e g4 l3; obtain ⟨Y1, Y2⟩ := Y12) | (with_reducible have Y1 := znew g4 l3) | (with_reducible have Y1 := znew_d g4 l3) | (with_reducible have Y1 := znew_d2 g4 l3) | (with_reducible have Y1 := znew_d3 g4 l3) | skip); have G4 := grown_new (w := w1) G3 GB; (first | (with_reducible have lz3 := Below.lt_of' Z1') | skip); (first | (with_reducible have lz4 := Below.lt_of' Z2') | skip); (first | (with_reducible have lz5 := Below.lt_of' Y1) | skip); (first | (with_reducible have lz6 := Below.lt_of' Y2) | skip); obtain ⟨q4, rfl⟩ := nat_of' r4 b40; have b42 : (0 : Int) ≤ (q4 : Int) := b40; have b43 : (q4 : Int) < 3 := (by omega); obtain ⟨v4, hb1, hb2⟩ := get3 q4 b43; have pc1 := lit_two (w := w4) (t := 2) (o := (.cells #[.int .i64 (-1), .int .i64 0, .int .i64 256] 2)) ha1; have pc2 := lit_two' (w := w4) (t := 2) (o := (.cells #[.int .i64 (-1), .int .i64 0, .int .i64 256] 2)) ha1; have pd1 := lit_two (w := w4) (t := 2) (o := (.cells #[.int .i64 (-1), .int .i64 0, .int .i64 256, .int .i64 257] 2)) hb1; have pd2 := lit_two' (w := w4) (t := 2) (o := (.cells #[.int .i64 (-1), .int .i64 0, .int .i64 256, .int .i64 257] 2)) hb1; (first | (with_reducible have wa := row_get Z1' ha1) | (with_reducible have wa := row_get Z2' ha1) | (with_reducible have wa := row_get Y1 ha1) | (with_reducible have wa := row_get Y2 ha1) | skip); (first | (with_reducible have wb := row_get Z1' hb1) | (with_reducible have wb := row_get Z2' hb1) | (with_reducible have wb := row_get Y1 hb1) | (with_reducible have wb := row_get Y2 hb1) | skip); clear b41) | (refine (s_l01Next g B 4 _ (by first | with_reducible exact S2 | with_reducible exact S2.drew | with_reducible exact S2.alloc _ | with_reducible exact S2.drew.alloc _ | with_reducible exact (S2.alloc _).drew | with_reducible exact (S2.alloc _).alloc _ | with_reducible exact (S2.drew.alloc _).alloc _ | with_reducible exact ((S2.alloc _).drew).alloc _ | with_reducible exact ((S2.alloc _).alloc _).drew)).mono ?_; rintro e w3 ⟨r3, rfl, b30, b31, S3, g3⟩; have l3 := S3.lt; have zz3 := g3.size; (first | (with_reducible have Z12 := znew2 g3 l2; obtain ⟨Z1, Z2⟩ := Z12) | (with_reducible have Z12 := znew2_d g3 l2; obtain ⟨Z1, Z2⟩ := Z12) | (with_reducible have Z12 := znew2_m g3 l2; obtain ⟨Z1, Z2⟩ := Z12) | (with_reducible have Z12 := znew2_e g3 l2; obtain ⟨Z1, Z2⟩ := Z12) | (with_reducible have Z1 := znew g3 l2) | (with_reducible have Z1 := znew_d g3 l2) | (with_reducible have Z1 := znew_d2 g3 l2) | (with_reducible have Z1 := znew_d3 g3 l2) | skip); have G3 := grown_new (w := w1) (grown_new (w := w1) G2 (by first | with_reducible exact (World.grownBy.refl _ _) | with_reducible exact grown_drew (World.grownBy.refl _ _) | with_reducible exact grown_alloc (World.grownBy.refl _ _) _ | with_reducible exact grown_alloc (grown_drew (World.grownBy.refl _ _)) _ | with_reducible exact grown_drew (grown_alloc (World.grownBy.refl _ _) _) | with_reducible exact grown_alloc (grown_alloc (World.grownBy.refl _ _) _) _ | with_reducible exact grown_alloc (grown_alloc (grown_drew (World.grownBy.refl _ _)) _) _ | with_reducible exact grown_alloc (grown_drew (grown_alloc (World.grownBy.refl _ _) _)) _ | with_reducible exact grown_drew (grown_alloc (grown_alloc (World.grownBy.refl _ _) _) _))) g3; (first | (with_reducible have lz1 := Below.lt_of' Z1) | skip); (first | (with_reducible have lz2 := Below.lt_of' Z2) | skip); obtain ⟨q3, rfl⟩ := nat_of' r3 b30; have b32 : (0 : Int) ≤ (q3 : Int) := b30; have b33 : (q3 : Int) < 4 := (by omega); obtain ⟨v3, ha1, ha2⟩ := get4 q3 b33; have pa1 := lit_two (w := w3) (t := 2) (o := (.cells #[.int .i64 (-1), .int .i64 0, .int .i64 256] 2)) ha1; have pa2 := lit_two' (w := w3) (t := 2) (o := (.cells #[.int .i64 (-1), .int .i64 0, .int .i64 256] 2)) ha1; (first | (with_reducible have va := row_get Z1 ha1) | (with_reducible have va := row_get Z2 ha1) | skip); clear b31))))
    all_goals (try go_wp2)
    all_goals exact bodyPost_ret (results_pair rfl _ _ _) rfl ⟨_, _, rfl, src_below' hb (by first | with_reducible exact G4 | with_reducible exact grown_drew G4 | with_reducible exact grown_alloc G4 _ | with_reducible exact grown_alloc (grown_drew G4) _ | with_reducible exact grown_drew (grown_alloc G4 _) | with_reducible exact grown_alloc (grown_alloc G4 _) _ | with_reducible exact grown_alloc (grown_alloc (grown_drew G4) _) _ | with_reducible exact grown_alloc (grown_drew (grown_alloc G4 _)) _ | with_reducible exact grown_drew (grown_alloc (grown_alloc G4 _) _)) hg⟩
end Go.Proofs.Ytjheanonklgbcaa

/- Words for memory: a slice of int64 that reads as a list; a row of the call's own that reads as a list; the append law at them. No conditions. -/
import Derived.Test.YtgenfffgenddmaaDoorProg
import Derived.WalkKit
import Derived.WalkSpells
import Derived.Below
import Derived.Laws.OwnMore
import Derived.Maps.AppendAt
import Derived.Deep.AppendLies
import Derived.Deep.Draws
import Derived.RegionTactic
import Derived.OwnWalk
namespace Go.Proofs.YtgenfffgenddmaaDoor
open Go.RowKit
set_option linter.unusedSimpArgs false
set_option linter.unusedVariables false

theorem block_add (a : Addr) (n : Nat) : (a.add n).block = a.block := by unfold Addr.add; split <;> rfl
theorem add_add' (a : Addr) (i j : Nat) : (a.add i).add j = a.add (i + j) := by
  unfold Addr.add
  by_cases hi : i = 0 <;> by_cases hj : j = 0 <;> simp [hi, hj, Nat.add_assoc]
theorem grown_below {w w' : World} {row : Option Nat} (hg : w.grownBy w' row) {B : Nat} (hB : B ≤ w.heap.size) (hr : ∀ k, row = some k → B ≤ k) : Below B w w' :=
  (Below.refl B w).grown hg hB hr
theorem grown_trans' {a b c : World} {r r1 : Option Nat} (h : a.grownBy b r) (k : b.grownBy c r1) (hr : r1 = r ∨ ∀ g, r1 = some g → a.heap.size ≤ g) : a.grownBy c r :=
  ⟨k.os.trans h.os, k.tape.trans h.tape, k.output.trans h.output, Nat.le_trans h.size k.size, fun i hi hne =>
    (k.block i (Nat.lt_of_lt_of_le hi h.size) (fun e => by
      rcases hr with rfl | hr
      · exact hne e
      · have := hr i e.symm; omega)).trans (h.block i hi hne)⟩
theorem grown_alloc {a w : World} {row : Option Nat} (h : a.grownBy w row) (o : Obj) : a.grownBy (w.alloc o) row :=
  ⟨h.os, h.tape, h.output, Nat.le_trans h.size (by simp), fun i hi hne => (Below.heap_alloc w o i (Nat.lt_of_lt_of_le hi h.size)).trans (h.block i hi hne)⟩
theorem grown_drew {a w : World} {row : Option Nat} (h : a.grownBy w row) : a.grownBy w.drew row := ⟨h.os, h.tape, h.output, h.size, h.block⟩
theorem grown_drewN {a w : World} {row : Option Nat} (h : a.grownBy w row) (n : Nat) : a.grownBy (w.drewN n) row := ⟨h.os, h.tape, h.output, h.size, h.block⟩
theorem grown_of_below {a w : World} (h : Below a.heap.size a w) (row : Option Nat) : a.grownBy w row := ⟨h.os, h.tape, h.output, h.size, fun i hi _ => h.block i hi⟩
theorem below_drewN {B : Nat} {a w : World} (h : Below B a w) (n : Nat) : Below B a (w.drewN n) := ⟨h.os, h.tape, h.output, h.size, h.block⟩
theorem grown_set {a w : World} {g : Nat} (h : a.grownBy w (some g)) {p : Addr} (hp : p.block = g ∨ a.heap.size ≤ p.block) (u : Value) : a.grownBy (w.setCell p u) (some g) :=
  ⟨h.os, h.tape, h.output, by simpa [World.setCell] using h.size, fun i hi hne => (Below.heap_setCell w p u i (by
    rintro rfl
    rcases hp with hp | hp
    · exact hne (by rw [hp])
    · omega)).trans (h.block i hi hne)⟩

/-- A slice value '.slice A n c' that reads as the list xs, below block B. -/
def IntsAt (w : World) (B : Nat) (A : Option Addr) (n c : Nat) (xs : List Int) : Prop :=
  xs.length = n ∧ n ≤ c ∧ n ≤ 16777216 ∧ c ≤ maxLen ∧ (0 < n → ∃ ad : Addr, A = some ad ∧ ad.block < B ∧ ∀ j, j < n → w.cell? (ad.add j) = some (.int .i64 (xs.getD j 0)))
/-- A slice value that owns a row of blocks from 'base' on, and reads as xs. -/
def IOwn (w : World) (base : Nat) (v : Value) (xs : List Int) : Prop := w.ownsRow base 2 1 v xs.length (xs.map (Value.int .i64))

section
variable {w w' : World} {B B' n c base : Nat} {A : Option Addr} {xs : List Int} {v : Value}
theorem IntsAt.len (h : IntsAt w B A n c xs) : xs.length = n := h.1
theorem IntsAt.le (h : IntsAt w B A n c xs) : n ≤ c := h.2.1
theorem IntsAt.small (h : IntsAt w B A n c xs) : n ≤ 16777216 := h.2.2.1
theorem IntsAt.cap (h : IntsAt w B A n c xs) : c ≤ maxLen := h.2.2.2.1
theorem IntsAt.nil (w : World) (B : Nat) (A : Option Addr) (c : Nat) (hc : c ≤ maxLen) : IntsAt w B A 0 c [] := ⟨rfl, Nat.zero_le _, by omega, hc, fun h => absurd h (by omega)⟩
theorem IntsAt.at_ (h : IntsAt w B A n c xs) (k : Nat) (hk : k < n) : ∃ ad : Addr, A = some ad ∧ ad.block < B ∧ w.cell? (ad.add k) = some (.int .i64 (xs.getD k 0)) := by
  obtain ⟨ad, e, hb, hc⟩ := h.2.2.2.2 (by omega)
  exact ⟨ad, e, hb, hc k hk⟩
theorem IntsAt.keep (h : IntsAt w B A n c xs) (hk : ∀ p : Addr, p.block < B → w'.cell? p = w.cell? p) : IntsAt w' B A n c xs :=
  ⟨h.1, h.2.1, h.2.2.1, h.2.2.2.1, fun hn => by
    obtain ⟨ad, e, hb, hc⟩ := h.2.2.2.2 hn
    exact ⟨ad, e, hb, fun j hj => (hk _ (by rw [block_add]; exact hb)).trans (hc j hj)⟩⟩
theorem IntsAt.more (h : IntsAt w B A n c xs) (hB : B ≤ B') : IntsAt w B' A n c xs :=
  ⟨h.1, h.2.1, h.2.2.1, h.2.2.2.1, fun hn => by
    obtain ⟨ad, e, hb, hc⟩ := h.2.2.2.2 hn
    exact ⟨ad, e, by omega, hc⟩⟩
theorem IntsAt.below (h : IntsAt w B A n c xs) (hb : Below B w w') : IntsAt w' B A n c xs := h.keep fun _ hp => hb.cell hp
theorem IntsAt.below' (h : IntsAt w B A n c xs) (hB : B ≤ B') (hb : Below B' w w') : IntsAt w' B A n c xs := h.keep fun _ hp => hb.cell (by omega)
theorem IntsAt.drew (h : IntsAt w B A n c xs) : IntsAt w.drew B A n c xs := h
theorem IntsAt.drewN (h : IntsAt w B A n c xs) (k : Nat) : IntsAt (w.drewN k) B A n c xs := h
theorem IntsAt.alloc (h : IntsAt w B A n c xs) (hB : B ≤ w.heap.size) (o : Obj) : IntsAt (w.alloc o) B A n c xs := h.keep fun p hp => World.cell?_alloc_lt w o p (by omega)
theorem IntsAt.setCell (h : IntsAt w B A n c xs) {p : Addr} (hB : B ≤ p.block) (u : Value) : IntsAt (w.setCell p u) B A n c xs :=
  h.keep fun q hq => World.cell?_setCell_other w p q u (fun e => by subst e; omega)
theorem IntsAt.grown (h : IntsAt w B A n c xs) {row : Option Nat} (hg : w.grownBy w' row) (hB : B ≤ w.heap.size) (hr : ∀ g, row = some g → B ≤ g) : IntsAt w' B A n c xs :=
  h.below (grown_below hg hB hr)
/-- A slice 's[k:m]' of it, as the walk writes it. -/
theorem IntsAt.cut (h : IntsAt w B A n c xs) (k m : Nat) (hkm : k ≤ m) (hm : m ≤ n) :
    IntsAt w B (if c = k then A else A.map (·.add k)) (m - k) (c - k) ((xs.drop k).take (m - k)) := by
  have h1 := h.1
  have h2 := h.2.1
  refine ⟨by rw [List.length_take, List.length_drop]; omega, by omega, by have := h.2.2.1; omega, by have := h.2.2.2.1; omega, fun hn => ?_⟩
  obtain ⟨ad, rfl, hb, hcell⟩ := h.2.2.2.2 (by omega)
  rw [if_neg (by omega)]
  refine ⟨ad.add k, rfl, by rw [block_add]; exact hb, fun j hj => ?_⟩
  rw [add_add', hcell _ (by omega)]
  simp [List.getD_eq_getElem?_getD, List.getElem?_take, hj, List.getElem?_drop]
theorem IntsAt.cutTo (h : IntsAt w B A n c xs) (m : Nat) (hm : m ≤ n) : IntsAt w B A m c (xs.take m) := by
  have h1 := h.1
  have h2 := h.2.1
  refine ⟨by rw [List.length_take]; omega, by omega, by have := h.2.2.1; omega, h.2.2.2.1, fun hn => ?_⟩
  obtain ⟨ad, rfl, hb, hcell⟩ := h.2.2.2.2 (by omega)
  refine ⟨ad, rfl, hb, fun j hj => ?_⟩
  rw [hcell _ (by omega)]
  simp [List.getD_eq_getElem?_getD, List.getElem?_take, hj]
theorem IntsAt.cutFrom (h : IntsAt w B A n c xs) (k : Nat) (hk : k ≤ n) :
    IntsAt w B (if c = k then A else A.map (·.add k)) (n - k) (c - k) (xs.drop k) := by
  have := h.cut k n hk (Nat.le_refl _)
  rwa [List.take_of_length_le (by rw [List.length_drop, h.1]; omega)] at this

theorem IOwn.nil (w : World) (base : Nat) : IOwn w base (.slice none 0 0) [] := ⟨rfl, .inl ⟨rfl, rfl⟩⟩
theorem IOwn.lt (h : IOwn w base v xs) : ∀ k, v.ownBlock = some k → base ≤ k ∧ k < w.heap.size := World.ownsRow.lt h
theorem IOwn.alloc (h : IOwn w base v xs) (o : Obj) : IOwn (w.alloc o) base v xs := World.ownsRow.alloc h o
theorem IOwn.drew (h : IOwn w base v xs) : IOwn w.drew base v xs := h
theorem IOwn.drewN (h : IOwn w base v xs) (k : Nat) : IOwn (w.drewN k) base v xs := h
theorem IOwn.kept {row : Option Nat} (h : IOwn w base v xs) (hg : w.grownBy w' row) (hne : v.ownBlock = none ∨ v.ownBlock ≠ row) : IOwn w' base v xs := World.ownsRow.kept h hg hne
theorem IOwn.less {base' : Nat} (h : IOwn w base v xs) (hb : base' ≤ base) : IOwn w base' v xs := by
  refine ⟨h.1, ?_⟩
  rcases h.2 with h | ⟨g, cap, cur, h1, h2, h3⟩
  · exact .inl h
  · exact .inr ⟨g, cap, cur, h1, by omega, h3⟩
theorem IOwn.below_ (h : IOwn w base v xs) (hb : Below w.heap.size w w') : IOwn w' base v xs :=
  h.kept (grown_of_below hb none) (by cases v.ownBlock <;> simp)
theorem IOwn.form (h : IOwn w base v xs) : ∃ A c, v = .slice A xs.length c ∧ xs.length ≤ c ∧ c ≤ maxLen ∧ ((A = none ∧ xs = [] ∧ c = 0) ∨ ∃ g, A = some ⟨g, 0, none⟩ ∧ base ≤ g ∧ g < w.heap.size) := by
  rcases h.2 with ⟨rfl, h0⟩ | ⟨g, cap, cur, rfl, hb, hh, hnc, hcm, _⟩
  · have h0' : xs = [] := List.eq_nil_of_length_eq_zero h0
    subst h0'
    exact ⟨none, 0, rfl, Nat.le_refl _, by unfold maxLen; omega, .inl ⟨rfl, rfl, rfl⟩⟩
  · exact ⟨_, cap, rfl, hnc, hcm, .inr ⟨g, rfl, hb, by
      rcases Nat.lt_or_ge g w.heap.size with hlt | hge
      · exact hlt
      · rw [Array.getElem?_eq_none hge] at hh; cases hh⟩⟩
theorem IOwn.ints (h : IOwn w base v xs) (hs : xs.length ≤ 16777216) : ∃ A c, v = .slice A xs.length c ∧ IntsAt w w.heap.size A xs.length c xs := by
  obtain ⟨A, c, rfl, hc, hcm, hA⟩ := h.form
  refine ⟨A, c, rfl, rfl, hc, hs, hcm, fun hn => ?_⟩
  rcases hA with ⟨_, rfl, _⟩ | ⟨g, rfl, _, hlt⟩
  · simp at hn
  · refine ⟨_, rfl, hlt, fun j hj => ?_⟩
    exact World.ownsRow.cells h (g := g) rfl j _ (by simp [List.getD_eq_getElem?_getD, List.getElem?_eq_getElem hj])
end

/-- A new block that holds just the list xs. -/
theorem lit_ints (w : World) (xs : List Int) (t : TypeId) (ht : xs.length ≤ 16777216) : IntsAt (w.alloc (.cells (xs.map (Value.int .i64)).toArray t)) (w.heap.size + 1) (some ⟨w.heap.size, 0, none⟩) xs.length xs.length xs := by
  refine ⟨rfl, Nat.le_refl _, ht, by unfold maxLen; omega, fun hn => ⟨⟨w.heap.size, 0, none⟩, rfl, by simp, fun j hj => ?_⟩⟩
  have : ((⟨w.heap.size, 0, none⟩ : Addr).add j) = ⟨w.heap.size, j, none⟩ := by
    unfold Addr.add; split
    · simp_all
    · simp
  rw [this, World.cell?_alloc_new]
  simp [List.getD_eq_getElem?_getD, List.getElem?_eq_getElem hj]
theorem lit_own (w : World) (xs : List Int) (base : Nat) (hb : base ≤ w.heap.size) (ht : xs.length ≤ 16777216) : IOwn (w.alloc (.cells (xs.map (Value.int .i64)).toArray 2)) base (.slice (some ⟨w.heap.size, 0, none⟩) xs.length xs.length) xs := by
  have := World.ownsRow_lit (e := 2) (size := 1) w (xs.map (Value.int .i64)).toArray xs.length hb (by unfold maxLen; omega) (by simp)
  simpa [IOwn] using this

theorem lit_own' (w : World) (xs : List Int) (base g : Nat) (hg : g = w.heap.size) (hb : base ≤ w.heap.size) (ht : xs.length ≤ 16777216) : IOwn (w.alloc (.cells (xs.map (Value.int .i64)).toArray 2)) base (.slice (some ⟨g, 0, none⟩) xs.length xs.length) xs := by
  subst hg; exact lit_own w xs base hb ht

/-! ### append onto a row of the call's own -/
theorem run_append_nil (P : Program) (w : World) (base : Nat) (t ty e : TypeId) (i : TypeInfo) (size : Nat) (ht : P.underlying t = some (.slice e)) (hi : P.info? e = some i)
    (v : Value) (n : Nat) (xs : List Value) (hown : w.ownsRow base e size v n xs) (c : Nat) : (Builtin.append_ #[t, t] ty #[v, .slice none 0 c]).run P w = .ok v w := by
  rcases hown.2 with ⟨rfl, rfl⟩ | ⟨g, cap, cur, rfl, _, _, hnc, _⟩
  · simp [Builtin.append_, run_underlying ht, sizeOf, typeInfo, hi, Builtin.lenOf, Builtin.firstCells]
  · simp [Builtin.append_, run_underlying ht, sizeOf, typeInfo, hi, Builtin.lenOf, Builtin.firstCells, hnc, storeCells]
theorem run_app {P : Program} (w : World) (base : Nat) (t ty : TypeId) (ht : P.underlying t = some (.slice 2)) (hinfo : (P.info? 2).map (fun i => (i.zero, i.size, i.bytes)) = some (some (.int .i64 0), 1, 8))
    (v : Value) (xs : List Int) (hown : IOwn w base v xs) (B : Nat) (A : Option Addr) (m c : Nat) (ys : List Int) (hr : IntsAt w B A m c ys)
    (hn : xs.length + m ≤ 17179869184) (hbase : base ≤ w.heap.size) :
    ∃ v' w', (Builtin.append_ #[t, t] ty #[v, .slice A m c]).run P w = .ok v' w' ∧ IOwn w' base v' (xs ++ ys) ∧ w.grownBy w' v.ownBlock ∧ (v'.ownBlock = v.ownBlock ∨ v'.ownBlock = some w.heap.size) := by
  obtain ⟨i, hi, hz0, hz1, hz2⟩ := info_parts hinfo
  have hl := hr.1
  rcases A with _ | ad
  · have hm : m = 0 := by
      rcases Nat.eq_zero_or_pos m with h0 | h0
      · exact h0
      · obtain ⟨ad, h, _⟩ := hr.2.2.2.2 h0
        cases h
    subst hm
    have hn' : ys = [] := List.eq_nil_of_length_eq_zero hl
    subst hn'
    exact ⟨v, w, run_append_nil P w base t ty 2 i 1 ht hi v _ _ hown c, by simpa using hown, World.grownBy.refl w _, .inl rfl⟩
  · have hcells : ∀ j u, (ys.map (Value.int .i64))[j]? = some u → w.cell? (ad.add j) = some u := by
      intro j u hu
      rw [List.getElem?_map] at hu
      rcases hy : ys[j]? with _ | y
      · rw [hy] at hu; cases hu
      · rw [hy] at hu
        obtain ⟨hj, hyy⟩ := List.getElem?_eq_some_iff.1 hy
        obtain ⟨ad', h, _, hc⟩ := hr.2.2.2.2 (by omega)
        injection h with h
        subst h
        rw [hc j (by omega)]
        simp only [List.getD_eq_getElem?_getD, hy]
        exact hu
    obtain ⟨v', w', hrun, h2, h3, _, h5⟩ := run_append_own_at (P := P) w base t ty 2 i (.int .i64 0) 1 8 ht hi hz0 hz1 hz2 rfl (by omega) v _ _ hown ad m c (ys.map (Value.int .i64)) (by simp [hl]) hcells
      (ints_oneCell _ _) (by unfold maxLen; omega) (by omega) hbase
    refine ⟨v', w', hrun, ?_, h3, h5⟩
    unfold IOwn
    rw [List.length_append, List.map_append, hl]
    exact h2
theorem wp_app {P : Program} (w : World) {o : Oper} {a : Act} {K : Act → World → Prop} {Q : Exit → Act → World → Prop} (s x : Operand) (t : TypeId)
    (ho : o.op = .call { callee := .builtin .append, args := #[s, x], argTypes := #[t, t] })
    (base : Nat) (ht : P.underlying t = some (.slice 2)) (hinfo : (P.info? 2).map (fun i => (i.zero, i.size, i.bytes)) = some (some (.int .i64 0), 1, 8))
    (v : Value) (xs : List Int) (hs : a.eval s = v) (hown : IOwn w base v xs) (B : Nat) (A : Option Addr) (m c : Nat) (ys : List Int) (hx : a.eval x = .slice A m c) (hr : IntsAt w B A m c ys)
    (hn : xs.length + m ≤ 17179869184) (hbase : base ≤ w.heap.size)
    (h : ∀ v' w', IOwn w' base v' (xs ++ ys) → w.grownBy w' v.ownBlock → (v'.ownBlock = v.ownBlock ∨ v'.ownBlock = some w.heap.size) → K (a.put o.dst v') w') : o.wp P a w K Q := by
  obtain ⟨v', w', hrun, h2, h3, h4⟩ := run_app (P := P) w base t o.type ht hinfo v xs hown B A m c ys hr hn hbase
  unfold Oper.wp execOp
  simp only [ho, resolve, invoke, builtin, Sem.run_bind, Sem.run_pure, Result.andThen_ok, List.map_toArray, List.map_cons, List.map_nil, hs, hx, hrun]
  exact h v' w' h2 h3 h4
theorem wpList_app {P : Program} (w : World) {ops : Array Oper} {rest : List Oper} {o : Oper} {a : Act} {Q : Exit → Act → World → Prop} (hgd : o.guard = none) (s x : Operand) (t : TypeId)
    (ho : o.op = .call { callee := .builtin .append, args := #[s, x], argTypes := #[t, t] })
    (base : Nat) (ht : P.underlying t = some (.slice 2)) (hinfo : (P.info? 2).map (fun i => (i.zero, i.size, i.bytes)) = some (some (.int .i64 0), 1, 8))
    (v : Value) (xs : List Int) (hs : a.eval s = v) (hown : IOwn w base v xs) (B : Nat) (A : Option Addr) (m c : Nat) (ys : List Int) (hx : a.eval x = .slice A m c) (hr : IntsAt w B A m c ys)
    (hn : xs.length + m ≤ 17179869184) (hbase : base ≤ w.heap.size)
    (h : ∀ v' w', IOwn w' base v' (xs ++ ys) → w.grownBy w' v.ownBlock → (v'.ownBlock = v.ownBlock ∨ v'.ownBlock = some w.heap.size) → wpList P ops Q rest (a.put o.dst v') w') : wpList P ops Q (o :: rest) a w :=
  wpList_plain hgd fun _ hK => wp_app w s x t ho base ht hinfo v xs hs hown B A m c ys hx hr hn hbase fun v' w' h2 h3 h4 => hK _ _ (h v' w' h2 h3 h4)
/-- Behind an append: what is below 'base' is as it was. -/
theorem app_below {w w' : World} {base : Nat} {v : Value} {xs : List Int} (hown : IOwn w base v xs) (hg : w.grownBy w' v.ownBlock) (hbase : base ≤ w.heap.size) : Below base w w' :=
  grown_below hg hbase fun k hk => (hown.lt k hk).1

theorem app_below' {w wr w' : World} {B base : Nat} {v : Value} {xs : List Int} {o : Obj} (hb : Below B w wr) (hB : B ≤ base) (hbase : base ≤ wr.heap.size) (hown : IOwn wr base v xs) (hg : (wr.alloc o).grownBy w' v.ownBlock) : Below B w w' :=
  (hb.alloc (by omega) o).grown hg (by simp; omega) fun k hk => by have := (hown.lt k hk).1; omega

/-- What the frame of a law knows of an argument of type []int64. -/
def ArgInts (w : World) (A : Option Addr) (n c : Nat) (xs : List Int) : Prop :=
  n ≤ c ∧ c ≤ maxLen ∧ xs.length = n ∧ (∀ x ∈ xs, (Lit.int .i64 x).wf = true) ∧ (n ≤ 16777216 → IntsAt w w.heap.size A n c xs)
theorem cell_lt {w : World} {a : Addr} {v : Value} (h : w.cell? a = some v) : a.block < w.heap.size := by
  rcases Nat.lt_or_ge a.block w.heap.size with hlt | hge
  · exact hlt
  · simp [World.cell?, Array.getElem?_eq_none hge] at h
theorem argInts_nil (w : World) : ArgInts w none 0 0 [] := ⟨Nat.le_refl _, by unfold maxLen; omega, rfl, by simp, fun _ => IntsAt.nil _ _ _ _ (by unfold maxLen; omega)⟩
theorem argInts_mk {w : World} {x : Addr} {l c : Nat} {zs : List Int} (hl : l ≤ c) (hm : c ≤ maxLen) (hz : zs.length = c) (hcell : ∀ i, i < zs.length → w.cell? (x.add i) = some (.int .i64 (zs.getD i 0)))
    (hwz : ∀ n ∈ zs, (Lit.int .i64 n).wf = true) : ArgInts w (some x) l c (zs.take l) := by
  refine ⟨hl, hm, by rw [List.length_take]; omega, fun y hy => hwz y (List.mem_of_mem_take hy), fun hs => ⟨by rw [List.length_take]; omega, hl, hs, hm, fun hn => ⟨x, rfl, ?_, fun j hj => ?_⟩⟩⟩
  · have := cell_lt (hcell 0 (by omega)); rwa [block_add] at this
  · rw [hcell j (by omega)]; simp [List.getD_eq_getElem?_getD, List.getElem?_take, hj]

theorem int_info : (Tryd.prog.info? 2).map (fun i => (i.zero, i.size, i.bytes)) = some (some (.int .i64 0), 1, 8) := by kernel_rfl
end Go.Proofs.YtgenfffgenddmaaDoor

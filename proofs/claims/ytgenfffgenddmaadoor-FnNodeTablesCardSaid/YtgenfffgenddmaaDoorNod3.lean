/- Node tables in memory: how one reads, its size, its copy. -/
import Derived.Test.YtgenfffgenddmaaDoorNod2
import Derived.Test.YtgenfffgenddmaaDoorHelp
import Derived.Deep.RegionHeld3
import Derived.BigRegion
namespace Go.Proofs.YtgenfffgenddmaaDoor
open Go.RowKit
set_option linter.unusedSimpArgs false
set_option linter.unusedVariables false
def ndCells (w : World) (ad : Addr) (k : Nat) (d : Nd) : Prop :=
  w.cell? (ad.add (k * 4)) = some (.int .i64 d.id) ∧ w.cell? ⟨(ad.add (k * 4)).block, (ad.add (k * 4)).off + 1, none⟩ = some (.string d.nm) ∧ w.cell? ⟨(ad.add (k * 4)).block, (ad.add (k * 4)).off + 2, none⟩ = some (.int .i64 d.dr) ∧ w.cell? ⟨(ad.add (k * 4)).block, (ad.add (k * 4)).off + 3, none⟩ = some (.bool d.pv)
theorem add_off (a : Addr) (i j : Nat) (h : 0 < j) : a.add (i + j) = ⟨(a.add i).block, (a.add i).off + j, none⟩ := by
  rw [← add_add']
  generalize a.add i = b
  unfold Addr.add
  rw [if_neg (by omega)]
theorem add_zero4 (g j : Nat) : (⟨g, 0, none⟩ : Addr).add (j * 4) = ⟨g, j * 4, none⟩ := by
  unfold Addr.add
  split
  · simp_all
  · simp
theorem ndCells.keep {w w' : World} {ad : Addr} {k : Nat} {d : Nd} (h : ndCells w ad k d) (hk : ∀ p : Addr, p.block = ad.block → w'.cell? p = w.cell? p) : ndCells w' ad k d :=
  ⟨(hk _ (block_add _ _)).trans h.1, (hk ⟨_, _, none⟩ (block_add ad (k * 4))).trans h.2.1, (hk ⟨_, _, none⟩ (block_add ad (k * 4))).trans h.2.2.1, (hk ⟨_, _, none⟩ (block_add ad (k * 4))).trans h.2.2.2⟩
/-- What a law's frame knows of an argument that is a list of nodes. -/
def ArgNodes (w : World) (A : Option Addr) (n c : Nat) (L : List Nd) : Prop :=
  L.length = n ∧ n ≤ c ∧ c ≤ maxLen ∧ (0 < n → ∃ ad : Addr, A = some ad ∧ ad.block < w.heap.size ∧ ∀ (k : Nat) (d : Nd), L[k]? = some d → ndCells w ad k d ∧ d.nm.size ≤ maxLen)
/-- A slice that reads as a list of nodes, below block B. -/
def NodesAt (w : World) (B : Nat) (A : Option Addr) (n c : Nat) (L : List Nd) : Prop :=
  L.length = n ∧ n ≤ c ∧ n ≤ 1048576 ∧ c ≤ maxLen ∧ (0 < n → ∃ ad : Addr, A = some ad ∧ ad.block < B ∧ ∀ (k : Nat) (d : Nd), L[k]? = some d → ndCells w ad k d ∧ d.nm.size ≤ 1048576)
def nodeVals (L : List Nd) : List Value := L.flatMap fun d => d.cells.toList
theorem nodeVals_len : ∀ L : List Nd, (nodeVals L).length = L.length * 4
  | [] => rfl
  | d :: L => by
    have := nodeVals_len L
    simp only [nodeVals, List.flatMap_cons, List.length_append, List.length_cons] at *
    rw [this]; simp [Nd.cells]; omega
theorem nodeVals_get : ∀ (L : List Nd) (k i : Nat) (d : Nd), L[k]? = some d → i < 4 → (nodeVals L)[k * 4 + i]? = d.cells.toList[i]?
  | [], k, i, d, h, _ => by simp at h
  | e :: L, 0, i, d, h, hi => by
    simp at h; subst h
    simp only [nodeVals, List.flatMap_cons]
    rw [List.getElem?_append_left (by simp [Nd.cells]; omega)]
    simp
  | e :: L, k + 1, i, d, h, hi => by
    have := nodeVals_get L k i d (by simpa using h) hi
    simp only [nodeVals, List.flatMap_cons] at *
    rw [List.getElem?_append_right (by simp [Nd.cells]; omega)]
    have e : (k + 1) * 4 + i - e.cells.toList.length = k * 4 + i := by simp [Nd.cells]; omega
    rw [e]; exact this
/-- A slice value that owns a row of nodes. -/
def NOwn (w : World) (base : Nat) (v : Value) (L : List Nd) : Prop := w.ownsRow base 36 4 v L.length (nodeVals L)
section
variable {w w' : World} {B B' n c base : Nat} {A : Option Addr} {L : List Nd} {v : Value}
theorem NodesAt.below' (h : NodesAt w B A n c L) (hB : B ≤ B') (hb : Below B' w w') : NodesAt w' B A n c L :=
  ⟨h.1, h.2.1, h.2.2.1, h.2.2.2.1, fun hn => by
    obtain ⟨ad, e, hBl, hc⟩ := h.2.2.2.2 hn
    exact ⟨ad, e, hBl, fun k d hd => ⟨(hc k d hd).1.keep fun p hp => hb.cell (by rw [hp]; omega), (hc k d hd).2⟩⟩⟩
theorem NodesAt.grown (h : NodesAt w B A n c L) {row : Option Nat} (hg : w.grownBy w' row) (hB : B ≤ w.heap.size) (hr : ∀ g, row = some g → B ≤ g) : NodesAt w' B A n c L :=
  h.below' (Nat.le_refl _) (grown_below hg hB hr)
theorem NodesAt.more (h : NodesAt w B A n c L) (hB : B ≤ B') : NodesAt w B' A n c L :=
  ⟨h.1, h.2.1, h.2.2.1, h.2.2.2.1, fun hn => by
    obtain ⟨ad, e, hBl, hc⟩ := h.2.2.2.2 hn
    exact ⟨ad, e, by omega, hc⟩⟩
theorem NodesAt.drewN (h : NodesAt w B A n c L) (k : Nat) : NodesAt (w.drewN k) B A n c L := h
theorem NodesAt.len (h : NodesAt w B A n c L) : L.length = n := h.1
theorem NodesAt.at_ (h : NodesAt w B A n c L) (k : Nat) (hk : k < n) : ∃ (ad : Addr) (d : Nd), A = some ad ∧ ad.block < B ∧ L[k]? = some d ∧ ndCells w ad k d ∧ d.nm.size ≤ 1048576 := by
  obtain ⟨ad, e, hB, hc⟩ := h.2.2.2.2 (by omega)
  have hl := h.1
  exact ⟨ad, _, e, hB, List.getElem?_eq_getElem (by omega), hc k _ (List.getElem?_eq_getElem (by omega))⟩
theorem ArgNodes.at_ (h : ArgNodes w A n c L) (k : Nat) (hk : k < n) : ∃ (ad : Addr) (d : Nd), A = some ad ∧ ad.block < w.heap.size ∧ L[k]? = some d ∧ ndCells w ad k d ∧ d.nm.size ≤ maxLen := by
  obtain ⟨ad, e, hB, hc⟩ := h.2.2.2 (by omega)
  have hl := h.1
  exact ⟨ad, _, e, hB, List.getElem?_eq_getElem (by omega), hc k _ (List.getElem?_eq_getElem (by omega))⟩
theorem ArgNodes.nodes (h : ArgNodes w A n c L) (hn : n ≤ 1048576) (hx : ∀ (k : Nat) (d : Nd), L[k]? = some d → d.nm.size ≤ 1048576) : NodesAt w w.heap.size A n c L :=
  ⟨h.1, h.2.1, hn, h.2.2.1, fun h0 => by
    obtain ⟨ad, e, hB, hc⟩ := h.2.2.2 h0
    exact ⟨ad, e, hB, fun k d hd => ⟨(hc k d hd).1, hx k d hd⟩⟩⟩
/-- A part of a table from its start. -/
theorem NodesAt.cutTo (h : NodesAt w B A n c L) (m : Nat) (hm : m ≤ n) : NodesAt w B A m c (L.take m) := by
  have h1 := h.1
  have h2 := h.2.1
  refine ⟨by rw [List.length_take]; omega, by omega, by have := h.2.2.1; omega, h.2.2.2.1, fun h0 => ?_⟩
  obtain ⟨ad, e, hB, hc⟩ := h.2.2.2.2 (by omega)
  refine ⟨ad, e, hB, fun k d hd => hc k d ?_⟩
  rw [List.getElem?_take] at hd
  split at hd
  · exact hd
  · cases hd
theorem NOwn.below_ (h : NOwn w base v L) (hb : Below w.heap.size w w') : NOwn w' base v L :=
  World.ownsRow.kept h (grown_of_below hb none) (by cases v.ownBlock <;> simp)
theorem NOwn.lt (h : NOwn w base v L) : ∀ k, v.ownBlock = some k → base ≤ k ∧ k < w.heap.size := World.ownsRow.lt h
theorem NOwn.form (h : NOwn w base v L) : ∃ A c, v = .slice A L.length c ∧ L.length ≤ c ∧ c ≤ maxLen ∧ ((A = none ∧ L = [] ∧ c = 0) ∨ ∃ g, A = some ⟨g, 0, none⟩ ∧ base ≤ g ∧ g < w.heap.size) := by
  rcases h.2 with ⟨rfl, h0⟩ | ⟨g, cap, cur, rfl, hb, hh, hnc, hcm, _⟩
  · have h0' : L = [] := List.eq_nil_of_length_eq_zero h0
    subst h0'
    exact ⟨none, 0, rfl, Nat.le_refl _, by unfold maxLen; omega, .inl ⟨rfl, rfl, rfl⟩⟩
  · exact ⟨_, cap, rfl, hnc, hcm, .inr ⟨g, rfl, hb, by
      rcases Nat.lt_or_ge g w.heap.size with hlt | hge
      · exact hlt
      · rw [Array.getElem?_eq_none hge] at hh; cases hh⟩⟩
theorem NOwn.nodes (h : NOwn w base v L) (hs : L.length ≤ 1048576) (hx : ∀ (k : Nat) (d : Nd), L[k]? = some d → d.nm.size ≤ 1048576) : ∃ A c, v = .slice A L.length c ∧ NodesAt w w.heap.size A L.length c L := by
  obtain ⟨A, c, rfl, hc, hcm, hA⟩ := h.form
  refine ⟨A, c, rfl, rfl, hc, hs, hcm, fun hn => ?_⟩
  rcases hA with ⟨_, rfl, _⟩ | ⟨g, rfl, _, hlt⟩
  · simp at hn
  · refine ⟨_, rfl, hlt, fun k d hd => ⟨?_, hx k d hd⟩⟩
    have hk := (List.getElem?_eq_some_iff.1 hd).1
    unfold ndCells
    rw [add_zero4]
    have e0 := nodeVals_get L k 0 d hd (by omega)
    have e1 := nodeVals_get L k 1 d hd (by omega)
    have e2 := nodeVals_get L k 2 d hd (by omega)
    have e3 := nodeVals_get L k 3 d hd (by omega)
    unfold NOwn at h
    exact ⟨(World.ownsRow.cellAt h (k * 4) (by omega)).trans e0, (World.ownsRow.cellAt h (k * 4 + 1) (by omega)).trans e1, (World.ownsRow.cellAt h (k * 4 + 2) (by omega)).trans e2, (World.ownsRow.cellAt h (k * 4 + 3) (by omega)).trans e3⟩
end
/-- What the size's walk says of a table. -/
def SzPost (n : Nat) (L : List Nd) (w : World) (e : Ending) (w' : World) : Prop := ∃ x : Int, e = .returned (.int .i64 x) ∧ (0 ≤ x → n ≤ 1048576 ∧ ∀ (k : Nat) (d : Nd), L[k]? = some d → d.nm.size ≤ 1048576) ∧ Below w.heap.size w w'
set_option maxHeartbeats 1000000 in
theorem h_szNodeInfoS (A : Option Addr) (n c : Nat) (L : List Nd) (w : World) (h : ArgNodes w A n c L) :
    Calls Tryd.prog 24 #[.slice A n c, .int .i64 1048576] w (SzPost n L w) := by
  have hc := h.2.2.1
  have hnc := h.2.1
  have hll := h.1
  unfold maxLen at hc
  have hw : IntKind.i64.wrap (1048576 - (n : Int)) = 1048576 - (n : Int) := IntWalk.i64_in _ (by omega)
  by_cases hn : n ≤ 1048576
  · have hd : decide ((1048576 : Int) - n < 0) = false := by simp; omega
    have hr : 0 ≤ (1048576 : Int) - n ∧ (1048576 : Int) - n ≤ 1048576 := by omega
    have hL := Lib.hid hll
    clear hll
    go_enter Tryd.func24, Tryd.ntmps24
    go_wp2
    go_loopw [1, 5] (fun v i wr => ∃ (k : Nat) (x : Int), k ≤ n ∧ i = .int .i64 k ∧ v = .int .i64 x ∧ 0 ≤ x ∧ x ≤ 1048576 ∧ Hid (∀ (j : Nat) (d : Nd), j < k → L[j]? = some d → d.nm.size ≤ 1048576) ∧ Below w.heap.size w wr) (fun _ i _ => n - (intOf i).toNat)
    case atStart => exact ⟨0, _, Nat.zero_le _, rfl, rfl, hr.1, hr.2, Lib.hid (fun j e hj => by omega), Below.refl _ _⟩
    case round =>
      clear hr hd hw
      obtain ⟨k, x, hk, rfl, rfl, x0, x1, H, hb⟩ := hrel
      by_cases hlt : k < n
      · obtain ⟨ad, d, rfl, hab, he, cs, hm⟩ := h.at_ k hlt
        obtain ⟨c0, c1, c2, c3⟩ := cs.keep fun p hp => hb.cell (by rw [hp]; exact hab)
        have hS := Lib.hid (fun W => h_szNodeInfo d x W hm ⟨x0, x1⟩)
        obtain ⟨s0, s1, s2⟩ := szV_le d.nm.size x x1
        have hs2 := Lib.hid s2
        have He := Lib.hid he
        clear s2 he cs hm
        generalize szV d.nm.size x = y at *
        unfold Nd.cells at hS
        go_wp2_with fail
        refine (hS.out _).mono ?_
        rintro e' w2 ⟨rfl, b2⟩
        have hb2 := hb.trans (b2.mono hb.size)
        clear hb b2 hS c0 c1 c2 c3
        by_cases hy : y < 0
        · go_wp2
          go_ret
          exact ⟨-1, rfl, fun h => by omega, hb2⟩
        · have hy' : decide (y < 0) = false := by simpa using hy
          go_wp2
          go_roundw
          case rel => exact ⟨k + 1, y, by omega, by go_num, rfl, by omega, s1, Lib.hid (fun j d' hj hd => by
            by_cases e : j = k
            · subst e
              have := He.out.symm.trans hd
              injection this with this
              subst this
              have := hs2.out (by omega)
              omega
            · exact H.out j d' (by omega) hd), hb2⟩
          case measure => simp [intOf]; omega
      · go_wp2
        go_ret
        exact ⟨x, rfl, fun _ => ⟨hn, fun j d hd => H.out j d (by
          have := (List.getElem?_eq_some_iff.1 hd).1
          have := hL.out
          omega) hd⟩, hb⟩
  · have hd : decide ((1048576 : Int) - n < 0) = true := by simp; omega
    clear hll h
    go_enter Tryd.func24, Tryd.ntmps24
    go_wp2
    go_ret
    exact ⟨-1, rfl, fun h => by omega, Below.refl _ _⟩
theorem node_info : (Tryd.prog.info? 36).map (fun i => (i.zero, i.size, i.bytes)) = some (some (.agg #[.int .i64 0, .string ⟨#[]⟩, .int .i64 0, .bool false]), 4, 40) := by kernel_rfl
/-- The cells of a table's copy, of which k elements are done. -/
def Done (L : List Nd) (k : Nat) (cs : List Value) : Prop := ∀ (j i : Nat) (d : Nd), j < k → L[j]? = some d → i < 4 → cs[j * 4 + i]? = d.cells.toList[i]?
theorem Done.next {k : Nat} {L : List Nd} {cs : List Value} {d : Nd} (h : Done L k cs) (hd : L[k]? = some d) (hk : k * 4 + 3 < cs.length) :
    Done L (k + 1) ((((cs.set (k * 4) (.int .i64 d.id)).set (k * 4 + 1) (.string d.nm)).set (k * 4 + 2) (.int .i64 d.dr)).set (k * 4 + 3) (.bool d.pv)) := fun j i e hj he hi => by
  by_cases hjk : j = k
  · subst hjk
    obtain rfl := Option.some.inj (he.symm.trans hd)
    match i, hi with
    | 0, _ => rw [List.getElem?_set_ne (by omega), List.getElem?_set_ne (by omega), List.getElem?_set_ne (by omega), Nat.add_zero, List.getElem?_set_self (by omega)]; rfl
    | 1, _ => rw [List.getElem?_set_ne (by omega), List.getElem?_set_ne (by omega), List.getElem?_set_self (by rw [List.length_set]; omega)]; rfl
    | 2, _ => rw [List.getElem?_set_ne (by omega), List.getElem?_set_self (by rw [List.length_set, List.length_set]; omega)]; rfl
    | 3, _ => rw [List.getElem?_set_self (by rw [List.length_set, List.length_set, List.length_set]; omega)]; rfl
  · rw [List.getElem?_set_ne (by omega), List.getElem?_set_ne (by omega), List.getElem?_set_ne (by omega), List.getElem?_set_ne (by omega)]
    exact h j i e (by omega) he hi
theorem Done.all {L : List Nd} {cs : List Value} (h : Done L L.length cs) (hl : cs.length = L.length * 4) : cs = nodeVals L := by
  apply List.ext_getElem?
  intro m
  by_cases hm : m < L.length * 4
  · have hd : L[m / 4]? = some L[m / 4] := List.getElem?_eq_getElem (by omega)
    have h1 := h (m / 4) (m % 4) _ (by omega) hd (by omega)
    have h2 := nodeVals_get L (m / 4) (m % 4) _ hd (by omega)
    rw [show m / 4 * 4 + m % 4 = m by omega] at h1 h2
    rw [h1, h2]
  · rw [List.getElem?_eq_none (by omega), List.getElem?_eq_none (by rw [nodeVals_len]; omega)]
set_option maxHeartbeats 4000000 in
theorem h_toNodeInfoS (A : Option Addr) (n c : Nat) (L : List Nd) (B : Nat) (w : World) (h : NodesAt w B A n c L) (hB : B ≤ w.heap.size) :
    Calls Tryd.prog 26 #[.slice A n c] w fun e w' => ∃ v, e = .returned v ∧ NOwn w' w.heap.size v L ∧ Below w.heap.size w w' := by
  obtain ⟨i0, hi, hz0, hz1, hz2⟩ := info_parts node_info
  have hn := h.2.2.1
  have HL := Lib.hid h.1
  go_enter Tryd.func26, Tryd.ntmps26
  go_wp2_with (at_make; refine wpList_make_full _ rfl _ _ 23 rfl w.heap.size 36 i0 (.agg #[.int .i64 0, .string ⟨#[]⟩, .int .i64 0, .bool false]) 4 Tryd.underlying23 hi hz0 hz1 .i64 .i64 _ _ n rfl rfl rfl rfl ?c1 ?c2 ?c3 ?_)
  case c1 => rw [hz2]; omega
  case c2 => unfold maxLen; omega
  case c3 => exact Nat.le_refl _
  intro w1 hown0 hg0
  have hb0 : Below w.heap.size w w1 := grown_below hg0 (Nat.le_refl _) (by intro k hk; cases hk)
  have hgl : w.heap.size < w1.heap.size := (World.ownsRow.lt hown0 w.heap.size rfl).2
  generalize (madeCells _ _).toList = cs0 at hown0
  have hD0 : Hid (∃ cs, w1.ownsRow w.heap.size 36 4 (.slice (some ⟨w.heap.size, 0, none⟩) n n) n cs ∧ Done L 0 cs) := Lib.hid ⟨_, hown0, fun j i d hj => by omega⟩
  clear hown0 hg0 hi hz0 hz1 hz2
  generalize hg : w.heap.size = g at *
  have HG := Lib.hid hg
  clear hg
  go_wp2
  go_loopw [4] (fun i wr => ∃ k : Nat, k ≤ n ∧ i = .int .i64 k ∧ g < wr.heap.size ∧ Below g w wr ∧ Hid (∃ cs, wr.ownsRow g 36 4 (.slice (some ⟨g, 0, none⟩) n n) n cs ∧ Done L k cs)) (fun i _ => n - (intOf i).toNat)
  case atStart => exact ⟨0, Nat.zero_le _, rfl, hgl, hb0, hD0⟩
  case round =>
    clear hgl hb0 hD0
    obtain ⟨k, hk, rfl, hgl, hb, hD⟩ := hrel
    by_cases hlt : k < n
    · obtain ⟨ad, d, rfl, hab, hd, cs, hs⟩ := h.at_ k hlt
      obtain ⟨c0, c1, c2, c3⟩ := cs.keep fun p hp => hb.cell (by rw [hp]; omega)
      have HD := Lib.hid hd
      have hT := Lib.hid (fun W => h_toNodeInfo d W)
      unfold Nd.cells at hT
      clear h cs hd hs
      go_wp2_with fail
      refine (hT.out wr).mono ?_
      rintro e w2 ⟨rfl, b2⟩
      obtain ⟨cs, hown, hdn⟩ := hD.out
      have z2 := b2.size
      replace hown := World.ownsRow.kept hown (grown_of_below b2 none) (by simp [Value.ownBlock])
      have hb2 := hb.trans (b2.mono (by omega))
      have hcl : cs.length = n * 4 := hown.1
      have f0 := hown.frozenAt (k * 4)
      have f1 := hown.frozenAt (k * 4 + 1)
      have f2 := hown.frozenAt (k * 4 + 2)
      have f3 := hown.frozenAt (k * 4 + 3)
      have e0 := hown.cellAt (k * 4) (by omega)
      have e1 := hown.cellAt (k * 4 + 1) (by omega)
      have e2 := hown.cellAt (k * 4 + 2) (by omega)
      have e3 := hown.cellAt (k * 4 + 3) (by omega)
      rw [List.getElem?_eq_getElem (by omega)] at e0 e1 e2 e3
      have h1 := (hown.stored (k * 4) (.int .i64 d.id)).1
      have h2 := (h1.stored (k * 4 + 1) (.string d.nm)).1
      have h3 := (h2.stored (k * 4 + 2) (.int .i64 d.dr)).1
      have h4 := (h3.stored (k * 4 + 3) (.bool d.pv)).1
      have hdN := hdn.next HD.out (by omega)
      have H3 : Hid ((∃ cs, ((((w2.setCell ⟨g, k * 4, none⟩ (.int .i64 d.id)).setCell ⟨g, k * 4 + 1, none⟩ (.string d.nm)).setCell ⟨g, k * 4 + 2, none⟩ (.int .i64 d.dr)).setCell ⟨g, k * 4 + 3, none⟩ (.bool d.pv)).ownsRow g 36 4 (.slice (some ⟨g, 0, none⟩) n n) n cs ∧ Done L (k + 1) cs) ∧
          Below g w ((((w2.setCell ⟨g, k * 4, none⟩ (.int .i64 d.id)).setCell ⟨g, k * 4 + 1, none⟩ (.string d.nm)).setCell ⟨g, k * 4 + 2, none⟩ (.int .i64 d.dr)).setCell ⟨g, k * 4 + 3, none⟩ (.bool d.pv)) ∧
          g < ((((w2.setCell ⟨g, k * 4, none⟩ (.int .i64 d.id)).setCell ⟨g, k * 4 + 1, none⟩ (.string d.nm)).setCell ⟨g, k * 4 + 2, none⟩ (.int .i64 d.dr)).setCell ⟨g, k * 4 + 3, none⟩ (.bool d.pv)).heap.size) :=
        Lib.hid ⟨⟨_, h4, hdN⟩, (((hb2.setCell (p := ⟨g, k * 4, none⟩) (Nat.le_refl _) _).setCell (p := ⟨g, k * 4 + 1, none⟩) (Nat.le_refl _) _).setCell (p := ⟨g, k * 4 + 2, none⟩) (Nat.le_refl _) _).setCell (p := ⟨g, k * 4 + 3, none⟩) (Nat.le_refl _) _, by simp [World.setCell]; omega⟩
      clear h1 h2 h3 h4 hdN hdn hown hb2 b2 hb
      generalize cs[k * 4]'_ = x0 at e0
      generalize cs[k * 4 + 1]'_ = x1 at e1
      generalize cs[k * 4 + 2]'_ = x2 at e2
      generalize cs[k * 4 + 3]'_ = x3 at e3
      clear hcl cs c0 c1 c2 c3 hD hT
      go_wp2
      go_roundw
      case rel => exact ⟨k + 1, by omega, by go_num, H3.out.2.2, H3.out.2.1, Lib.hid H3.out.1⟩
      case measure => simp [intOf]; omega
    · go_wp2
      go_ret
      obtain ⟨cs, hown, hdn⟩ := hD.out
      have hl := HL.out
      obtain rfl : k = L.length := by omega
      have he := hdn.all (by rw [hown.1, hl])
      refine ⟨_, rfl, ?_, by rw [HG.out]; exact hb⟩
      unfold NOwn
      rw [HG.out, hl, ← he]
      exact hown
end Go.Proofs.YtgenfffgenddmaaDoor

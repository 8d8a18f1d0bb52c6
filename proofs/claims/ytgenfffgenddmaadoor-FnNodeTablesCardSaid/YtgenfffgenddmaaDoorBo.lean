/- Slices of bytes that are owned; appends of one byte and of one node; a text made of bytes. -/
import Derived.Test.YtgenfffgenddmaaDoorRd
import Derived.Test.YtgenfffgenddmaaDoorDn2
import Derived.Test.YtgenfffgenddmaaDoorByt
namespace Go.Proofs.YtgenfffgenddmaaDoor
open Go.RowKit
set_option linter.unusedSimpArgs false
set_option linter.unusedVariables false
def BOwn (w : World) (base : Nat) (v : Value) (bs : List Int) : Prop := w.ownsRow base 5 1 v bs.length (bs.map (Value.int .u8))
theorem u8_info : (Tryd.prog.info? 5).map (fun i => (i.zero, i.size, i.bytes)) = some (some (.int .u8 0), 1, 1) := by kernel_rfl
theorem blit_own (w : World) (base : Nat) (hb : base ≤ w.heap.size) : BOwn (w.alloc (.cells #[] 5)) base (.slice (some ⟨w.heap.size, 0, none⟩) 0 0) [] :=
  World.ownsRow_lit (e := 5) (size := 1) w #[] 0 hb (by unfold maxLen; omega) (by simp)
theorem wpList_appB (w : World) {ops : Array Oper} {rest : List Oper} {o : Oper} {a : Act} {Q : Exit → Act → World → Prop} (hgd : o.guard = none) (s x : Operand)
    (ho : o.op = .call { callee := .builtin .append, args := #[s, x], argTypes := #[53, 53] })
    (base : Nat) (v : Value) (bs : List Int) (hs : a.eval s = v) (hown : BOwn w base v bs) (g1 c : Nat) (b : Int) (hx : a.eval x = .slice (some ⟨g1, 0, none⟩) 1 c) (hr : w.heap[g1]? = some (.cells #[.int .u8 b] 5 (0, 0)))
    (hn : bs.length ≤ 1000) (hbase : base ≤ w.heap.size)
    (h : ∀ v' w', BOwn w' base v' (bs ++ [b]) → w.grownBy w' v.ownBlock → (v'.ownBlock = v.ownBlock ∨ v'.ownBlock = some w.heap.size) → wpList Tryd.prog ops Q rest (a.put o.dst v') w') : wpList Tryd.prog ops Q (o :: rest) a w := by
  obtain ⟨i, hi, hz0, hz1, hz2⟩ := info_parts u8_info
  obtain ⟨v', w', hrun, h2, h3, _, h5⟩ := run_append_own_at (P := Tryd.prog) w base 53 o.type 5 i (.int .u8 0) 1 1 Tryd.underlying53 hi hz0 hz1 hz2 rfl (by omega) v _ _ hown ⟨g1, 0, none⟩ 1 c [.int .u8 b] (by simp) (World.news_of_block hr)
    (by simp [Value.oneCell']) (by unfold maxLen; omega) (by omega) hbase
  refine wpList_plain hgd fun _ hK => ?_
  unfold Oper.wp execOp
  simp only [ho, resolve, invoke, builtin, Sem.run_bind, Sem.run_pure, Result.andThen_ok, List.map_toArray, List.map_cons, List.map_nil, hs, hx, hrun]
  refine hK _ _ (h v' w' ?_ h3 h5)
  unfold BOwn
  rw [List.length_append, List.map_append]
  exact h2
theorem wp_appN (w : World) {o : Oper} {a : Act} {K : Act → World → Prop} {Q : Exit → Act → World → Prop} (s x : Operand)
    (ho : o.op = .call { callee := .builtin .append, args := #[s, x], argTypes := #[23, 23] })
    (base : Nat) (v : Value) (L : List Nd) (hs : a.eval s = v) (hown : NOwn w base v L) (g1 c : Nat) (d : Nd) (hx : a.eval x = .slice (some ⟨g1, 0, none⟩) 1 c) (hr : w.heap[g1]? = some (.cells d.cells 36 (0, 0)))
    (hn : L.length ≤ 1000) (hbase : base ≤ w.heap.size)
    (h : ∀ v' w', NOwn w' base v' (L ++ [d]) → w.grownBy w' v.ownBlock → (v'.ownBlock = v.ownBlock ∨ v'.ownBlock = some w.heap.size) → K (a.put o.dst v') w') : o.wp Tryd.prog a w K Q := by
  obtain ⟨i, hi, hz0, hz1, hz2⟩ := info_parts node_info
  obtain ⟨v', w', hrun, h2, h3, _, h5⟩ := run_append_own_at (P := Tryd.prog) w base 23 o.type 36 i (.agg #[.int .i64 0, .string ⟨#[]⟩, .int .i64 0, .bool false]) 4 40 Tryd.underlying23 hi hz0 hz1 hz2 rfl (by omega) v _ _ hown ⟨g1, 0, none⟩ 1 c d.cells.toList (by simp [Nd.cells]) (World.news_of_block hr)
    (by simp [Nd.cells, Value.oneCell']) (by unfold maxLen; omega) (by omega) hbase
  unfold Oper.wp execOp
  simp only [ho, resolve, invoke, builtin, Sem.run_bind, Sem.run_pure, Result.andThen_ok, List.map_toArray, List.map_cons, List.map_nil, hs, hx, hrun]
  refine h v' w' ?_ h3 h5
  unfold NOwn
  have e : nodeVals (L ++ [d]) = nodeVals L ++ d.cells.toList := by simp [nodeVals]
  rw [e, List.length_append]
  exact h2
theorem step_appN {ops : Array Oper} {o : Oper} {a : Act} {w : World} {K : Act → World → Prop} {Q : Exit → Act → World → Prop} {E : Prop} (hg : o.guard = none) (s x : Operand)
    (ho : o.op = .call { callee := .builtin .append, args := #[s, x], argTypes := #[23, 23] })
    (base : Nat) (v : Value) (L : List Nd) (hs : a.eval s = v) (hown : NOwn w base v L) (g1 c : Nat) (d : Nd) (hx : a.eval x = .slice (some ⟨g1, 0, none⟩) 1 c) (hr : w.heap[g1]? = some (.cells d.cells 36 (0, 0)))
    (hn : L.length ≤ 1000) (hbase : base ≤ w.heap.size)
    (h : ∀ v' w', NOwn w' base v' (L ++ [d]) → w.grownBy w' v.ownBlock → (v'.ownBlock = v.ownBlock ∨ v'.ownBlock = some w.heap.size) → K (a.put o.dst v') w') :
    if Region.wanted o (yielded ops a.tmps) = true then Oper.wp Tryd.prog o a w K Q else E := by
  have hw : Region.wanted o (yielded ops a.tmps) = true := by simp [Region.wanted, hg]
  rw [if_pos hw]
  exact wp_appN w s x ho base v L hs hown g1 c d hx hr hn hbase h
theorem cell_same {w w' : World} {p : Addr} (h : w'.heap[p.block]? = w.heap[p.block]?) : w'.cell? p = w.cell? p := by
  unfold World.cell?
  rw [h]
/-- A row of bytes reads as a text, wherever its block is as it was. -/
theorem BOwn.conv {w : World} {base : Nat} {v : Value} {bs : List Int} (h : BOwn w base v bs) (ho : v.ownBlock ≠ none) (hb : ∀ k, k < bs.length → 0 ≤ bs.getD k 0 ∧ bs.getD k 0 ≤ 255) :
    ∃ g c, v = .slice (some ⟨g, 0, none⟩) bs.length c ∧ base ≤ g ∧ g < w.heap.size ∧
      ∀ w' : World, w'.heap[g]? = w.heap[g]? → (convert 53 9 (.slice (some ⟨g, 0, none⟩) bs.length c)).run Tryd.prog w' = .ok (.string ⟨(bs.map fun x => UInt8.ofNat x.toNat).toArray⟩) w' := by
  have hlt := h.lt
  have H := h
  rcases h.2 with ⟨rfl, h0⟩ | ⟨g, cap, cur, rfl, hbg, hh, hnc, hcm, _⟩
  · exact absurd rfl ho
  · refine ⟨g, cap, rfl, hbg, (hlt g rfl).2, fun w' hw' => ?_⟩
    have := run_convert_bytes_back (P := Tryd.prog) w' 53 9 5 ⟨g, 0, none⟩ cap (bs.map fun x => UInt8.ofNat x.toNat) Tryd.underlying53 Tryd.underlying5 Tryd.underlying9 (fun j hj => by
      have hj' : j < bs.length := by simpa using hj
      have hc := World.ownsRow.cells H (g := g) rfl j _ (by rw [List.getElem?_map, List.getElem?_eq_getElem hj']; rfl)
      rw [cell_same (w := w) (by rw [block_add]; exact hw')]
      have hb' := hb j hj'
      rw [List.getD_eq_getElem?_getD, List.getElem?_eq_getElem hj'] at hb'
      simp only [Option.getD_some] at hb'
      refine hc.trans ?_
      simp
      omega)
    rw [List.length_map] at this
    exact this
end Go.Proofs.YtgenfffgenddmaaDoor

/- The bytes of bits: the program's loop over slices.Chunk. -/
import Derived.Test.YtpcdachkmekjgaaChunk
import Derived.Maps.AppendAt
namespace Go.Proofs.Ytpcdachkmekjgaa
open Go.RowKit Go.Shelf
set_option linter.unusedSimpArgs false
set_option linter.unusedVariables false
attribute [local go_sem] Oper.semAt_some
theorem offs_map (N k : Nat) (f : Nat → Int) : (offs N k).map f = (List.range k).map (fun i => f (i * N)) := by simp [offs, Function.comp_def]
theorem stepIn_app {F : Fence} {n : Nat} {P : Program} {ops : Array Oper} {o : Oper} {a : Act} {w : World} {K : Act → World → Prop} {Q : Exit → Act → World → Prop} {E : Prop}
    (hg : o.guard = none) (s x : Operand) (t : TypeId) (ho : o.op = .call { callee := .builtin .append, args := #[s, x], argTypes := #[t, t] })
    (base : Nat) (ht : P.underlying t = some (.slice 2)) (hinfo : (P.info? 2).map (fun i => (i.zero, i.size, i.bytes)) = some (some (.int .i64 0), 1, 8))
    (v : Value) (xs : List Int) (hs : a.eval s = v) (hown : IOwn w base v xs) (B : Nat) (A : Option Addr) (m c : Nat) (ys : List Int) (hx : a.eval x = .slice A m c) (hr : IntsAt w B A m c ys)
    (hn : xs.length + m ≤ 17179869184) (hbase : base ≤ w.heap.size)
    (h : ∀ v' w', IOwn w' base v' (xs ++ ys) → w.grownBy w' v.ownBlock → (v'.ownBlock = v.ownBlock ∨ v'.ownBlock = some w.heap.size) → K (a.put o.dst v') w') :
    if Region.wanted o (yielded ops a.tmps) = true then Oper.wpIn F n P o a w K Q else E := by
  have hw : Region.wanted o (yielded ops a.tmps) = true := by simp [Region.wanted, hg]
  rw [if_pos hw]
  obtain ⟨v', w', hrun, h2, h3, h4⟩ := run_app (P := P) w base t o.type ht hinfo v xs hown B A m c ys hr hn hbase
  unfold Oper.wpIn
  refine ⟨?_, ?_⟩
  · simp [Oper.about, ho, resolve, Target.leads, Sem.run_pure]
  · rw [Oper.semAt_plain F _ _ (by rw [ho]; intro c hc'; cases hc')]
    simp [execOp, ho, resolve, invoke, builtin, hs, hx, hrun, Result.andThen]
    exact h v' w' h2 h3 h4
/-- The byte at an offset. -/
def byteAt (xs : List Int) (i : Nat) : Int := ((numL ((xs.drop i).take 8) : Nat) : Int)
theorem bytes_offs (xs : List Int) (m : Nat) : (offs 8 m).map (byteAt xs) = bytesN xs m := by
  rw [offs_map]
  unfold bytesN byteAt
  congr 1
  funext k
  rw [Nat.mul_comm]
theorem chunk_in' (F : Fence) (n : Nat) (hF : F.fn 115) (hro : F.round = none) (A : Option Addr) (l c N : Nat) (Ni : Int) (hN : 1 ≤ N) (e : Ni = N) (w : World) :
    CallsIn F n Try.prog 115 #[.slice A l c, .int .i64 Ni] w fun e w' => e = .returned (.func (.func 119) #[] #[.pointer (some ⟨w.heap.size, 0, none⟩), .pointer (some ⟨w.heap.size + 1, 0, none⟩)]) ∧ w' = (w.alloc (.cells #[.slice A l c] 24)).alloc (.cells #[.int .i64 N] 3) := by
  subst e
  exact chunk_in F n hF hro A l c N hN w
theorem chunk_ints {W : World} {B n c : Nat} {ad : Addr} {xs : List Int} (h : IntsAt W B (some ad) n c xs) (N i : Nat) : IntsAt W B (some (ad.add i)) (min N (n - i)) (min N (n - i)) ((xs.drop i).take N) := by
  have h1 := h.1
  refine ⟨by rw [List.length_take, List.length_drop]; omega, Nat.le_refl _, by have := h.small; omega, by have := h.cap; have := h.le; omega, fun hn => ?_⟩
  obtain ⟨ad', e, hb, hcell⟩ := h.2.2.2.2 (by omega)
  cases e
  refine ⟨ad.add i, rfl, by rw [block_add]; exact hb, fun j hj => ?_⟩
  rw [add_add', hcell _ (by omega)]
  have hj' : j < N := by omega
  simp [List.getD_eq_getElem?_getD, List.getElem?_take, hj', List.getElem?_drop]
set_option maxRecDepth 100000 in
set_option maxHeartbeats 2000000 in
theorem i_toBytes (A : Option Addr) (c : Nat) (xs : List Int) (B m : Nat) (w : World) (h : IntsAt w B A (8 * m) c xs) (hB : B ≤ w.heap.size) (hb : bit01 xs) (hm : 1 ≤ m) :
    Calls Try.prog 92 #[.slice A ((8 * m : Nat)) c] w fun e w' => ∃ v, e = .returned v ∧ IOwn w' w.heap.size v (bytesN xs m) ∧ Below w.heap.size w w' := by
  obtain ⟨ad, rfl, hab, -⟩ := h.at_ 0 (by omega)
  have hlc := h.le
  have hcm := h.cap
  have hsm := h.small
  obtain ⟨i0, hi, hz0, hz1, hz2⟩ := info_parts int_info
  refine (callsIn_wide (n := 5)).1 ?_
  refine callsIn_of_wp_marks Try.func92 rfl trivial ?_ rfl
  simp only [Try.ntmps92, List.size_toArray, List.length_cons, List.length_nil, Nat.reduceAdd, Nat.reduceSub, Array.replicate_succ, Array.replicate_zero, List.push_toArray, List.append_toArray, List.nil_append, List.cons_append]
  gi_wp2_with (refine ⟨trivial, ?_⟩; gi_at_call 115; refine (chunk_in' Fence.wide _ trivial rfl _ _ _ 8 _ (by omega) rfl _).mono ?_; rintro e w' ⟨rfl, rfl⟩)
  have bO := Boxed.new (w.alloc (.cells #[] 2)) 24 (.slice (some ⟨w.heap.size, 0, none⟩) 0 0)
  have b0 := Boxed.new ((w.alloc (.cells #[] 2)).alloc (.cells #[.slice (some ⟨w.heap.size, 0, none⟩) 0 0] 24)) 24 (.slice (some ad) (8 * m) c)
  have b1 := Boxed.new (((w.alloc (.cells #[] 2)).alloc (.cells #[.slice (some ⟨w.heap.size, 0, none⟩) 0 0] 24)).alloc (.cells #[.slice (some ad) (8 * m) c] 24)) 3 (.int .i64 ((8 : Nat) : Int))
  have hB0 : Below w.heap.size w ((((w.alloc (.cells #[] 2)).alloc (.cells #[.slice (some ⟨w.heap.size, 0, none⟩) 0 0] 24)).alloc (.cells #[.slice (some ad) (8 * m) c] 24)).alloc (.cells #[.int .i64 ((8 : Nat) : Int)] 3)) :=
    ((((Below.refl _ w).alloc (Nat.le_refl _) _).alloc (by simp) _).alloc (by simp; omega) _).alloc (by simp; omega) _
  have o0 : IOwn (w.alloc (.cells #[] 2)) w.heap.size (.slice (some ⟨w.heap.size, 0, none⟩) 0 0) [] := lit_own w [] _ (Nat.le_refl _) (by simp)
  simp only [World.size_alloc] at bO b0 b1
  have bO := ((bO.alloc (.cells #[.slice (some ad) (8 * m) c] 24)).alloc (.cells #[.int .i64 ((8 : Nat) : Int)] 3))
  have b0 := b0.alloc (.cells #[.int .i64 ((8 : Nat) : Int)] 3)
  have o0 := ((o0.alloc (.cells #[.slice (some ⟨w.heap.size, 0, none⟩) 0 0] 24)).alloc (.cells #[.slice (some ad) (8 * m) c] 24)).alloc (.cells #[.int .i64 ((8 : Nat) : Int)] 3)
  have hdiv : (8 * m + 8 - 1) / 8 = m := by omega
  refine wpIn_rangeFunc_ownF rfl (by omega) (gf := 119) (lb := #[.pointer (some ⟨w.heap.size + 1 + 1, 0, none⟩), .pointer (some ⟨w.heap.size + 1 + 1 + 1, 0, none⟩)]) rfl trivial (enters_of Try.func119 (by kernel_rfl) rfl)
    (chunk_stops Fence.wide 4 trivial rfl (by omega) (w.heap.size + 1 + 1) (w.heap.size + 1 + 1 + 1) ad (8 * m) c 8 (by omega) (by omega) hlc hcm hsm _ b0 b1) keepB_t (keepB_b b0.lt b1.lt) (Below.refl _ _) (fun _ => rfl)
    (fun (pre : List Nat) W => (∃ v, Boxed W (w.heap.size + 1) 24 v ∧ W.ownsRow w.heap.size 2 1 v (pre.map (byteAt xs)).length ((pre.map (byteAt xs)).map (Value.int .i64)) ∧ True) ∧ Boxed W (w.heap.size + 1 + 1) 24 (.slice (some ad) (8 * m) c) ∧ Boxed W (w.heap.size + 1 + 1 + 1) 3 (.int .i64 ((8 : Nat) : Int)) ∧ Below w.heap.size w W)
    (fun _ _ _ => False)
    (OwnFrom.and (Own.from (holdsRow_own w.heap.size (w.heap.size + 1) 24 2 1 (fun pre : List Nat => (pre.map (byteAt xs)).length) (fun pre : List Nat => (pre.map (byteAt xs)).map (Value.int .i64)) (fun _ _ => True)) _)
      (OwnFrom.and (Own.from (boxed_own (w.heap.size + 1 + 1) 24 (fun _ => .slice (some ad) (8 * m) c)) _) (OwnFrom.and (Own.from (boxed_own (w.heap.size + 1 + 1 + 1) 3 (fun _ => .int .i64 ((8 : Nat) : Int))) _) (ownFrom_below (Nat.le_refl _) (by simp; omega)))))
    (fun _ _ _ _ _ hs _ _ => hs)
    ⟨⟨_, bO, o0, trivial⟩, b0, b1, hB0⟩
    (fun x => { tmps := #[.slice (some ad) (8 * m) c, undef, .slice none 0 0, .pointer (some ⟨w.heap.size + 1, 0, none⟩), chunkV ad (8 * m) 8 x, .slice (some ⟨w.heap.size, 0, none⟩) 0 0, .slice (some ad) (8 * m) c, .func (.func 119) #[] #[.pointer (some ⟨w.heap.size + 1 + 1, 0, none⟩), .pointer (some ⟨w.heap.size + 1 + 1 + 1, 0, none⟩)], chunkV ad (8 * m) 8 x, undef, undef, undef, undef, undef, undef], defers := [] }) ?assign ?body ?done ?stop
  case assign =>
    intro l x W K hK
    gi_wp2
    exact hK
  case body =>
    rintro l pre x W ⟨⟨v, hv, hrow, -⟩, hb0, hb1, hBW⟩ hlt
    rw [hdiv] at hlt
    have hc := hv.cell
    have hf := hv.frozen
    have hmx : Try.prog.follows .mixedOrders = true := by kernel_rfl
    have hci := chunk_ints (h.below' hB hBW) 8 x
    have hpl : (pre.map (byteAt xs)).length = pre.length := by simp
    have hsz := hBW.size
    have h01 := (hb.drop x).take 8
    have hch : min 8 (8 * m - x) ≤ 40 := by omega
    have hxl : ((xs.drop x).take 8).length ≤ 40 := by simp; omega
    have hv' : Boxed W.drew (w.heap.size + 1) 24 v := hv
    have hrow' : W.drew.ownsRow w.heap.size 2 1 v (pre.map (byteAt xs)).length ((pre.map (byteAt xs)).map (Value.int .i64)) := hrow
    have hbd : W.drew.heap.size = W.heap.size := rfl
    gi_wp2
    refine wpIn_region_any hmx ?_
    change wpAnyIn _ _ _ _ _ _ _ _ _ (World.drew _)
    have hvlt : w.heap.size + 1 < W.heap.size := hv.lt
    have q0 : Boxed W.drew (w.heap.size + 1 + 1) 24 (.slice (some ad) (8 * m) c) := hb0
    have q1 : Boxed W.drew (w.heap.size + 1 + 1 + 1) 3 (.int .i64 ((8 : Nat) : Int)) := hb1
    have hN : ∀ W' : World, IntsAt W' B (some (ad.add x)) (min 8 (8 * m - x)) (min 8 (8 * m - x)) ((xs.drop x).take 8) → CallsIn (Fence.wide.inRound l) 2 Try.prog 116 #[chunkV ad (8 * m) 8 x] W' fun e w' => e = .returned (.int .i64 (numL ((xs.drop x).take 8) : Nat)) ∧ W' = w' :=
      fun W' hi => CallsIn.inRound l (callsIn_wide.2 (i_numberOf _ _ _ _ _ _ hi h01 hch))
    repeat' (first
      | exact AllReadyIn.nil
      | (refine wpAnyIn_ready (rs := [0, 1]) (by decide +kernel) (by simp) ?_)
      | (refine wpAnyIn_ready (rs := [0, 2]) (by decide +kernel) (by simp) ?_)
      | (refine wpAnyIn_ready (rs := [0, 3]) (by decide +kernel) (by simp) ?_)
      | (refine wpAnyIn_ready (rs := [0]) (by decide +kernel) (by simp) ?_)
      | (refine wpAnyIn_ready (rs := [1]) (by decide +kernel) (by simp) ?_)
      | (refine wpAnyIn_ready (rs := [2]) (by decide +kernel) (by simp) ?_)
      | (refine wpAnyIn_ready (rs := [3]) (by decide +kernel) (by simp) ?_)
      | (refine wpAnyIn_ready (rs := [4]) (by decide +kernel) (by simp) ?_)
      | (refine wpAnyIn_ready (rs := [5]) (by decide +kernel) (by simp) ?_)
      | (refine AllReadyIn.cons rfl (fun K hK => ?_) ?_)
      | (refine stepIn_app rfl _ _ 24 rfl w.heap.size Try.underlying24 int_info _ (pre.map (byteAt xs)) rfl (IOwn.alloc hrow' _) _ _ 1 1 [((numL ((xs.drop x).take 8) : Nat) : Int)] rfl (lit_ints W.drew [((numL ((xs.drop x).take 8) : Nat) : Int)] 2 (by simp)) (by omega) (by simp; omega) ?_
         intro v' w1 hown' hgrow _
         obtain ⟨g', cap', rfl⟩ := ownsRow_succ (k := pre.length) (by have := hown'; simpa [IOwn] using this)
         obtain ⟨hv1, hv2, hr2, hk2, hb2⟩ := hv'.appended (by decide) hrow' hBW.size (Nat.le_succ _) hown' hgrow
         have hc1 := hv1.cell
         have hf1 := hv1.frozen
         refine hK _ _ ?_
         clear hK K)
      | (go_simp
         refine ⟨trivial, ?_⟩
         refine (hN _ hci.drew).mono ?_
         rintro e w' ⟨rfl, rfl⟩
         refine hK _ _ ?_
         clear hK K)
      | (go_simp
         refine hK _ _ ?_
         clear hK K)
      | (refine wpAnyIn_done (by decide +kernel) ?_ _))
    all_goals
      have r0 := (((q0.alloc _).kept hgrow (q0.not_row (by decide) hrow')).other (by omega) (.slice (some ⟨g', 0, none⟩) (pre.length + 1) cap') : Boxed (w1.setCell ⟨w.heap.size + 1, 0, none⟩ _) _ _ _)
      have r1 := (((q1.alloc _).kept hgrow (q1.not_row (by decide) hrow')).other (by omega) (.slice (some ⟨g', 0, none⟩) (pre.length + 1) cap') : Boxed (w1.setCell ⟨w.heap.size + 1, 0, none⟩ _) _ _ _)
      gi_wp2
      exact ⟨(KeepsOthers.drew W).trans hk2, ⟨r0.trans hb0.symm, r1.trans hb1.symm⟩, ⟨_, hv2, by rw [List.map_append]; exact hr2, trivial⟩, r0, r1, hBW.drew.trans hb2⟩
  case done =>
    rintro D ys W hD rfl ⟨⟨v, hv, hrow, -⟩, hb0, hb1, hBW⟩ hK
    have hc := hv.cell
    rw [hdiv, bytes_offs] at hrow
    gi_wp2
    refine ⟨by simp, .inl ⟨_, _, rfl, run_takeDeferred hK, ?_⟩⟩
    exact ⟨_, results_tmp rfl _ _ _, v, rfl, ownsRow_putObj hrow _ hK rfl, hBW.trans (belowK_b (w := w) (Nat.le_refl _) W D _ _ (by simp at hD; omega) hK rfl rfl)⟩
  case stop =>
    rintro D c' pre W _ _ h _
    exact h.elim
end Go.Proofs.Ytpcdachkmekjgaa

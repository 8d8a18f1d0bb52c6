/- slices.Collect of slices.Chunk of numbers. -/
import Derived.Test.YtjheanonklgbcaaChunk
import Derived.Maps.AppendAt
namespace Go.Proofs.Ytjheanonklgbcaa
open Go.RowKit Go.Shelf
set_option linter.unusedSimpArgs false
set_option linter.unusedVariables false
attribute [local go_sem] Oper.semAt_some
theorem slice_info : (Try.prog.info? 22).map (fun i => (i.zero, i.size, i.bytes)) = some (some (.slice none 0 0), 1, 24) := by kernel_rfl
theorem slice_parts : ∃ i, Try.prog.info? 22 = some i ∧ i.zero = some (.slice none 0 0) ∧ i.size = 1 ∧ i.bytes = 24 := by
  have h := slice_info
  cases hi : Try.prog.info? 22 with
  | none => rw [hi] at h; cases h
  | some i =>
    rw [hi] at h
    simp only [Option.map_some, Option.some.injEq, Prod.mk.injEq] at h
    exact ⟨i, rfl, h.1, h.2.1, h.2.2⟩
set_option maxRecDepth 100000 in
set_option maxHeartbeats 2000000 in
theorem l_AppendSeq (ad : Addr) (len c N b0 b1 : Nat) (hN : 1 ≤ N) (hNb : N ≤ 1000) (hlc : len ≤ c) (hcm : c ≤ maxLen) (hsm : len ≤ 16777216) (w : World)
    (q0 : Boxed w b0 22 (.slice (some ad) len c)) (q1 : Boxed w b1 3 (.int .i64 ((N : Nat) : Int))) :
    Calls Try.prog 100 #[.slice none 0 0, .func (.func 101) #[] #[.pointer (some ⟨b0, 0, none⟩), .pointer (some ⟨b1, 0, none⟩)]] w
      fun e w' => ∃ v, e = .returned v ∧ w'.ownsRow w.heap.size 22 1 v ((len + N - 1) / N) ((offs N ((len + N - 1) / N)).map (chunkV ad len N)) ∧ Below w.heap.size w w' := by
  obtain ⟨i0, hi, hz0, hz1, hz2⟩ := slice_parts
  have hcnt : (len + N - 1) / N ≤ 16778216 := Nat.le_trans (Nat.div_le_self _ _) (by omega)
  refine (callsIn_wide (n := 5)).1 ?_
  refine callsIn_of_wp_marks Try.func100 rfl trivial ?_ rfl
  simp only [Try.ntmps100, List.size_toArray, List.length_cons, List.length_nil, Nat.reduceAdd, Nat.reduceSub, Array.replicate_succ, Array.replicate_zero, List.push_toArray, List.append_toArray, List.nil_append, List.cons_append]
  gi_wp2
  have bO := Boxed.new w 56 (.slice none 0 0)
  have l0 := q0.lt
  have l1 := q1.lt
  have b0' := q0.alloc (.cells #[.slice none 0 0] 56)
  have b1' := q1.alloc (.cells #[.slice none 0 0] 56)
  have hB0 : Below w.heap.size w (w.alloc (.cells #[.slice none 0 0] 56)) := (Below.refl _ w).alloc (Nat.le_refl _) _
  have o0 : (w.alloc (.cells #[.slice none 0 0] 56)).ownsRow w.heap.size 22 1 (.slice none 0 0) 0 [] := World.ownsRow_nil _ _ _ _
  refine wpIn_rangeFunc_ownF rfl (by omega) (gf := 101) (lb := #[.pointer (some ⟨b0, 0, none⟩), .pointer (some ⟨b1, 0, none⟩)]) rfl trivial (enters_of Try.func101 (by kernel_rfl) rfl)
    (chunk_stops Fence.wide 4 trivial rfl (by omega) b0 b1 ad len c N hN hNb hlc hcm hsm _ b0' b1') keepB_t (keepB_b b0'.lt b1'.lt) (Below.refl _ _) (fun _ => rfl)
    (fun (pre : List Nat) W => (∃ v, Boxed W w.heap.size 56 v ∧ W.ownsRow w.heap.size 22 1 v (pre.map (chunkV ad len N)).length (pre.map (chunkV ad len N)) ∧ True) ∧ Boxed W b0 22 (.slice (some ad) len c) ∧ Boxed W b1 3 (.int .i64 ((N : Nat) : Int)) ∧ Below w.heap.size w W)
    (fun _ _ _ => False)
    (OwnFrom.and (Own.from (holdsRow_own w.heap.size w.heap.size 56 22 1 (fun pre : List Nat => (pre.map (chunkV ad len N)).length) (fun pre : List Nat => pre.map (chunkV ad len N)) (fun _ _ => True)) _)
      (OwnFrom.and (Own.from (boxed_own b0 22 (fun _ => .slice (some ad) len c)) _) (OwnFrom.and (Own.from (boxed_own b1 3 (fun _ => .int .i64 ((N : Nat) : Int))) _) (ownFrom_below (Nat.le_refl _) (by simp)))))
    (fun _ _ _ _ _ hs _ _ => hs)
    ⟨⟨_, bO, o0, trivial⟩, b0', b1', hB0⟩
    (fun x => { tmps := #[.slice none 0 0, .func (.func 101) #[] #[.pointer (some ⟨b0, 0, none⟩), .pointer (some ⟨b1, 0, none⟩)], .pointer (some ⟨w.heap.size, 0, none⟩), undef, .slice none 0 0, chunkV ad len N x, .func (.func 101) #[] #[.pointer (some ⟨b0, 0, none⟩), .pointer (some ⟨b1, 0, none⟩)], chunkV ad len N x, undef, undef, undef, undef, undef], defers := [] }) ?assign ?body ?done ?stop
  case assign =>
    intro l x W K hK
    gi_wp2
    exact hK
  case body =>
    rintro l pre x W ⟨⟨v, hv, hrow, -⟩, hb0, hb1, hBW⟩ hlt
    have hc := hv.cell
    have hf := hv.frozen
    have hpl : (pre.map (chunkV ad len N)).length = pre.length := by simp
    have hsz := hBW.size
    have hvlt : w.heap.size < W.heap.size := hv.lt
    rw [hpl] at hrow
    generalize hV : chunkV ad len N x = V
    obtain ⟨Aa, mm, rfl⟩ : ∃ Aa mm, V = .slice (some Aa) mm mm := ⟨_, _, hV.symm⟩
    have HV := Lib.hid hV
    clear hV
    gi_wp2_with (first
      | (gi_at_builtin; refine wpListIn_append_own _ rfl _ _ 56 rfl w.heap.size 22 i0 (.slice none 0 0) 1 24 Try.underlying56 hi hz0 hz1 hz2 rfl (by decide) v pre.length (pre.map (chunkV ad len N)) rfl (hrow.alloc _) ⟨W.heap.size, 0, none⟩ 1 1 [.slice (some Aa) mm mm] rfl rfl (cell_one_new _ _ _) (by simp [Value.oneCell']) (by unfold maxLen; omega) (by omega) (by simp; omega) ?_
         intro v' w1 hown' hgrow hnil
         obtain ⟨g', cap', rfl⟩ := ownsRow_succ (k := pre.length) hown'
         obtain ⟨hv1, hv2, hr2, hk2, hb2⟩ := hv.appended (by decide) hrow hBW.size (Nat.le_refl _) hown' hgrow
         have hc1 := hv1.cell
         have hf1 := hv1.frozen)
      | gi_in)
    have r0 := (((hb0.alloc _).kept hgrow (fun e => by have := (hrow.lt b0 (by first | exact e | exact e.symm)).1; omega)).other (by omega) (.slice (some ⟨g', 0, none⟩) (pre.length + 1) cap') : Boxed (w1.setCell ⟨w.heap.size, 0, none⟩ _) _ _ _)
    have r1 := (((hb1.alloc _).kept hgrow (fun e => by have := (hrow.lt b1 (by first | exact e | exact e.symm)).1; omega)).other (by omega) (.slice (some ⟨g', 0, none⟩) (pre.length + 1) cap') : Boxed (w1.setCell ⟨w.heap.size, 0, none⟩ _) _ _ _)
    exact ⟨hk2, ⟨r0.trans hb0.symm, r1.trans hb1.symm⟩, ⟨_, hv2, by rw [List.map_append, List.length_append, hpl]; simp only [List.map_cons, List.map_nil, HV.out]; exact hr2, trivial⟩, r0, r1, hBW.trans hb2⟩
  case done =>
    rintro D ys W hD rfl ⟨⟨v, hv, hrow, -⟩, hb0, hb1, hBW⟩ hK
    have hc := hv.cell
    rw [List.length_map, offs_len] at hrow
    gi_wp2
    refine ⟨by simp, .inl ⟨_, _, rfl, run_takeDeferred hK, ?_⟩⟩
    exact ⟨_, results_tmp rfl _ _ _, v, rfl, ownsRow_putObj hrow _ hK rfl, hBW.trans (belowK_b (w := w) (Nat.le_refl _) W D _ _ (by simp at hD; omega) hK rfl rfl)⟩
  case stop =>
    rintro D c' pre W _ _ h _
    exact h.elim
theorem callC_in (F : Fence) (n : Nat) (hF : F.fn 95) (hro : F.round = none) (A : Option Addr) (l c N : Nat) (Ni : Int) (hN : 1 ≤ N) (e : Ni = N) (w : World) :
    CallsIn F n Try.prog 95 #[.slice A l c, .int .i64 Ni] w fun e w' => e = .returned (.func (.func 101) #[] #[.pointer (some ⟨w.heap.size, 0, none⟩), .pointer (some ⟨w.heap.size + 1, 0, none⟩)]) ∧ w' = (w.alloc (.cells #[.slice A l c] 22)).alloc (.cells #[.int .i64 N] 3) := by
  subst e
  exact chunk_in F n hF hro A l c N hN w
theorem l_Chunk (A : Option Addr) (l c N : Nat) (Ni : Int) (hN : 1 ≤ N) (e : Ni = N) (w : World) :
    Calls Try.prog 95 #[.slice A l c, .int .i64 Ni] w fun e w' => e = .returned (.func (.func 101) #[] #[.pointer (some ⟨w.heap.size, 0, none⟩), .pointer (some ⟨w.heap.size + 1, 0, none⟩)]) ∧ w' = (w.alloc (.cells #[.slice A l c] 22)).alloc (.cells #[.int .i64 N] 3) :=
  (callsIn_wide (n := 5)).1 (callC_in Fence.wide 5 trivial rfl A l c N Ni hN e w)
theorem l_Collect (ad : Addr) (len c N b0 b1 : Nat) (hN : 1 ≤ N) (hNb : N ≤ 1000) (hlc : len ≤ c) (hcm : c ≤ maxLen) (hsm : len ≤ 16777216) (w : World)
    (q0 : Boxed w b0 22 (.slice (some ad) len c)) (q1 : Boxed w b1 3 (.int .i64 ((N : Nat) : Int))) :
    Calls Try.prog 94 #[.func (.func 101) #[] #[.pointer (some ⟨b0, 0, none⟩), .pointer (some ⟨b1, 0, none⟩)]] w
      fun e w' => ∃ v, e = .returned v ∧ w'.ownsRow w.heap.size 22 1 v ((len + N - 1) / N) ((offs N ((len + N - 1) / N)).map (chunkV ad len N)) ∧ Below w.heap.size w w' := by
  have H := Lib.hid (l_AppendSeq ad len c N b0 b1 hN hNb hlc hcm hsm w q0 q1)
  clear q0 q1
  go_enter Try.func94, Try.ntmps94
  go_wp2_with fail
  refine H.out.mono ?_
  rintro e w1 ⟨v, rfl, hr, hb⟩
  go_wp2
  go_ret
  exact ⟨_, rfl, hr, hb⟩
/-- Nothing is cut. -/
theorem chunk1_in0 (F : Fence) (n : Nat) (hF : F.fn 101) (hro : F.round = none) (l b0 b1 : Nat) (A : Option Addr) (c N : Nat)
    (J : List Nat → World → Prop) (W : World) (hb0 : Boxed W b0 22 (.slice A 0 c)) (hb1 : Boxed W b1 3 (.int .i64 N)) (h0 : J [] W) :
    CallsIn F n Try.prog 101 #[.func (.yield l) #[] #[], .pointer (some ⟨b0, 0, none⟩), .pointer (some ⟨b1, 0, none⟩)] W fun e W' => (∃ v, e = .returned v) ∧ J [] W' := by
  refine callsIn_of_wp Try.func101 rfl hF ?_ hro
  simp only [Try.ntmps101, List.size_toArray, List.length_cons, List.length_nil, Nat.reduceAdd, Nat.reduceSub, Array.replicate_succ, Array.replicate_zero, List.push_toArray, List.append_toArray, List.nil_append, List.cons_append]
  gi_wp2
  gi_loopw [4] (fun i wr => i = .int .i64 0 ∧ J [] wr ∧ Boxed wr b0 22 (.slice A 0 c) ∧ Boxed wr b1 3 (.int .i64 N)) (fun _ _ => 0)
  case atStart => exact ⟨rfl, h0, hb0, hb1⟩
  case round =>
    obtain ⟨rfl, hJ, p0, p1⟩ := hrel
    have hc0 := p0.cell
    have hc1 := p1.cell
    gi_wp2
    go_end0
    exact ⟨⟨_, rfl⟩, hJ⟩
theorem chunk_stops0 (F : Fence) (n : Nat) (hF : F.fn 101) (hro : F.round = none) (b0 b1 : Nat) (A : Option Addr) (c N : Nat)
    (w : World) (hb0 : Boxed w b0 22 (.slice A 0 c)) (hb1 : Boxed w b1 3 (.int .i64 N)) :
    SeqStopsK F n Try.prog 101 #[.pointer (some ⟨b0, 0, none⟩), .pointer (some ⟨b1, 0, none⟩)] (fun i : Nat => #[.slice none 0 0]) (KeepB b0 b1) (fun ys => ys = []) (fun _ => True) 0 w := fun l J Jx W hW hJ hJx hY h0 => by
  refine (chunk1_in0 F n hF hro l b0 b1 A c N J W ((hW.block b0 hb0.lt).trans hb0) ((hW.block b1 hb1.lt).trans hb1) h0).mono ?_
  rintro e W' ⟨h1, h2⟩
  exact ⟨h1, .inl ⟨_, rfl, h2⟩⟩
set_option maxRecDepth 100000 in
set_option maxHeartbeats 2000000 in
theorem l_AppendSeq0 (A : Option Addr) (c N b0 b1 : Nat) (w : World)
    (q0 : Boxed w b0 22 (.slice A 0 c)) (q1 : Boxed w b1 3 (.int .i64 ((N : Nat) : Int))) :
    Calls Try.prog 100 #[.slice none 0 0, .func (.func 101) #[] #[.pointer (some ⟨b0, 0, none⟩), .pointer (some ⟨b1, 0, none⟩)]] w
      fun e w' => ∃ v, e = .returned v ∧ Below w.heap.size w w' := by
  refine (callsIn_wide (n := 5)).1 ?_
  refine callsIn_of_wp_marks Try.func100 rfl trivial ?_ rfl
  simp only [Try.ntmps100, List.size_toArray, List.length_cons, List.length_nil, Nat.reduceAdd, Nat.reduceSub, Array.replicate_succ, Array.replicate_zero, List.push_toArray, List.append_toArray, List.nil_append, List.cons_append]
  gi_wp2
  have bO := Boxed.new w 56 (.slice none 0 0)
  have l0 := q0.lt
  have l1 := q1.lt
  have b0' := q0.alloc (.cells #[.slice none 0 0] 56)
  have b1' := q1.alloc (.cells #[.slice none 0 0] 56)
  have hB0 : Below w.heap.size w (w.alloc (.cells #[.slice none 0 0] 56)) := (Below.refl _ w).alloc (Nat.le_refl _) _
  refine wpIn_rangeFunc_ownF rfl (by omega) (gf := 101) (lb := #[.pointer (some ⟨b0, 0, none⟩), .pointer (some ⟨b1, 0, none⟩)]) rfl trivial (enters_of Try.func101 (by kernel_rfl) rfl)
    (chunk_stops0 Fence.wide 4 trivial rfl b0 b1 A c N _ b0' b1') keepB_t (keepB_b b0'.lt b1'.lt) (Below.refl _ _) (fun _ => rfl)
    (fun (pre : List Nat) W => Boxed W w.heap.size 56 (.slice none 0 0) ∧ Below w.heap.size w W)
    (fun _ _ _ => False)
    (OwnFrom.and (Own.from (boxed_own w.heap.size 56 (fun _ => .slice none 0 0)) _) (ownFrom_below (Nat.le_refl _) (by simp)))
    (fun _ _ _ _ _ hs _ _ => hs)
    ⟨bO, hB0⟩
    (fun x => { tmps := #[.slice none 0 0, .func (.func 101) #[] #[.pointer (some ⟨b0, 0, none⟩), .pointer (some ⟨b1, 0, none⟩)], .pointer (some ⟨w.heap.size, 0, none⟩), undef, .slice none 0 0, .slice none 0 0, .func (.func 101) #[] #[.pointer (some ⟨b0, 0, none⟩), .pointer (some ⟨b1, 0, none⟩)], .slice none 0 0, undef, undef, undef, undef, undef], defers := [] }) ?assign ?body ?done ?stop
  case assign =>
    intro l x W K hK
    gi_wp2
    exact hK
  case body =>
    rintro l pre x W _ hlt
    exact absurd hlt (Nat.not_lt_zero _)
  case done =>
    rintro D ys W hD rfl ⟨hv, hBW⟩ hK
    have hc := hv.cell
    gi_wp2
    refine ⟨by simp, .inl ⟨_, _, rfl, run_takeDeferred hK, ?_⟩⟩
    exact ⟨_, results_tmp rfl _ _ _, _, rfl, hBW.trans (belowK_b (w := w) (Nat.le_refl _) W D _ _ (by simp at hD; omega) hK rfl rfl)⟩
  case stop =>
    rintro D c' pre W _ _ h _
    exact h.elim
theorem l_Collect0 (A : Option Addr) (c N b0 b1 : Nat) (w : World)
    (q0 : Boxed w b0 22 (.slice A 0 c)) (q1 : Boxed w b1 3 (.int .i64 ((N : Nat) : Int))) :
    Calls Try.prog 94 #[.func (.func 101) #[] #[.pointer (some ⟨b0, 0, none⟩), .pointer (some ⟨b1, 0, none⟩)]] w
      fun e w' => ∃ v, e = .returned v ∧ Below w.heap.size w w' := by
  have H := Lib.hid (l_AppendSeq0 A c N b0 b1 w q0 q1)
  clear q0 q1
  go_enter Try.func94, Try.ntmps94
  go_wp2_with fail
  refine H.out.mono ?_
  rintro e w1 ⟨v, rfl, hb⟩
  go_wp2
  go_ret
  exact ⟨_, rfl, hb⟩
/-- The slices in a row, and what each of them reads. -/
def PartsAt (w : World) (B g m : Nat) (f : Nat → List Int) : Prop :=
  ∀ k, k < m → ∃ A l c', w.cell? ⟨g, k, none⟩ = some (.slice A l c') ∧ IntsAt w B A l c' (f k)
theorem PartsAt.below {w w' : World} {B B' g m : Nat} {f : Nat → List Int} (h : PartsAt w B g m f) (hg : g < B') (hB : B ≤ B') (hb : Below B' w w') : PartsAt w' B g m f := fun k hk => by
  obtain ⟨A, l, c', hc, hI⟩ := h k hk
  exact ⟨A, l, c', (hb.cell (p := ⟨g, k, none⟩) hg).trans hc, hI.below' hB hb⟩
theorem PartsAt.kept {w w' : World} {B g m : Nat} {row : Option Nat} {f : Nat → List Int} (h : PartsAt w B g m f) (hg : w.grownBy w' row) (hgs : g < w.heap.size) (hgn : row ≠ some g) (hB : B ≤ w.heap.size) (hr : ∀ k, row = some k → B ≤ k) : PartsAt w' B g m f := fun k hk => by
  obtain ⟨A, l, c', hc, hI⟩ := h k hk
  refine ⟨A, l, c', ?_, hI.grown hg hB hr⟩
  have e := hg.block g hgs (fun e => hgn e.symm)
  rw [← hc]
  simp only [World.cell?, e]
theorem PartsAt.drewN {w : World} {B g m : Nat} {f : Nat → List Int} (h : PartsAt w B g m f) (k : Nat) : PartsAt (w.drewN k) B g m f := h
def cutL (N : Nat) (xs : List Int) (k : Nat) : List Int := (xs.drop (k * N)).take N
def cutN (N n : Nat) : Nat := if n = 0 then 1 else (n + N - 1) / N
theorem chunk_ints2 {W : World} {B n c : Nat} {ad : Addr} {xs : List Int} (h : IntsAt W B (some ad) n c xs) (N i : Nat) : IntsAt W B (some (ad.add i)) (min N (n - i)) (min N (n - i)) ((xs.drop i).take N) := by
  have h1 := h.1
  refine ⟨by rw [List.length_take, List.length_drop]; omega, Nat.le_refl _, by have := h.small; omega, by have := h.cap; have := h.le; omega, fun hn => ?_⟩
  obtain ⟨ad', e, hb, hcell⟩ := h.2.2.2.2 (by omega)
  cases e
  refine ⟨ad.add i, rfl, by rw [block_add]; exact hb, fun j hj => ?_⟩
  rw [add_add', hcell _ (by omega)]
  have hj' : j < N := by omega
  simp [List.getD_eq_getElem?_getD, List.getElem?_take, hj', List.getElem?_drop]
theorem parts_of_row {w : World} {base B N m n c : Nat} {ad : Addr} {v : Value} {xs : List Int} (h : w.ownsRow base 22 1 v m ((offs N m).map (chunkV ad n N))) (hm : 1 ≤ m) (hI : IntsAt w B (some ad) n c xs) :
    ∃ g cp, v = .slice (some ⟨g, 0, none⟩) m cp ∧ base ≤ g ∧ g < w.heap.size ∧ m ≤ cp ∧ cp ≤ maxLen ∧ PartsAt w B g m (cutL N xs) := by
  obtain ⟨m', rfl⟩ : ∃ m', m = m' + 1 := ⟨m - 1, by omega⟩
  obtain ⟨g, cap, rfl⟩ := ownsRow_succ h
  have hlt := h.lt g rfl
  rcases h.2 with ⟨e, _⟩ | ⟨g', cap', cur, e, hbase, hgb, hr1, hr2, hr3, hr4⟩
  · cases e
  injection e with e1 e2 e3
  cases e1
  subst e3
  refine ⟨g, cap, rfl, hlt.1, hlt.2, hr1, hr2, fun k hk => ⟨some (ad.add (k * N)), min N (n - k * N), min N (n - k * N), ?_, chunk_ints2 hI N (k * N)⟩⟩
  rw [h.cellAt k (by simpa using hk), List.getElem?_map]
  have : (offs N (m' + 1))[k]? = some (k * N) := by simp [offs, List.getElem?_map, List.getElem?_range hk]
  rw [this]
  rfl
end Go.Proofs.Ytjheanonklgbcaa

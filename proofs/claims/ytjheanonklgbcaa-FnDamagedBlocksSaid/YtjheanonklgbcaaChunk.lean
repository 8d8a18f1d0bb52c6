/- slices.Chunk of numbers, and the bytes of bits over it. -/
import Derived.Test.YtjheanonklgbcaaByts
import Derived.RangeFuncNested
import Derived.RangeFuncBound
import Derived.RangeFuncCalls
import Derived.RangeFuncLeaves
import Derived.RangeFuncBox
import Derived.Shelf.Abstract
import Derived.Shelf.RegionOpen
import Derived.WalkKit
import Derived.OwnWalkIn
import Derived.TacticsInMore
import Derived.LoopNIn
import Derived.LoopIn
import Derived.Maps.AppendAt
namespace Go.Proofs.Ytjheanonklgbcaa
open Go.RowKit Go.Shelf
set_option linter.unusedSimpArgs false
set_option linter.unusedVariables false
attribute [local go_sem] Oper.semAt_some
set_option maxHeartbeats 1000000 in
theorem chunk_in (F : Fence) (n : Nat) (hF : F.fn 95) (hro : F.round = none) (A : Option Addr) (l c N : Nat) (hN : 1 ≤ N) (w : World) :
    CallsIn F n Try.prog 95 #[.slice A l c, .int .i64 N] w fun e w' => e = .returned (.func (.func 101) #[] #[.pointer (some ⟨w.heap.size, 0, none⟩), .pointer (some ⟨w.heap.size + 1, 0, none⟩)]) ∧ w' = (w.alloc (.cells #[.slice A l c] 22)).alloc (.cells #[.int .i64 N] 3) := by
  refine callsIn_of_wp Try.func95 rfl hF ?_ hro
  simp only [Try.ntmps95, List.size_toArray, List.length_cons, List.length_nil, Nat.reduceAdd, Nat.reduceSub, Array.replicate_succ, Array.replicate_zero, List.push_toArray, List.append_toArray, List.nil_append, List.cons_append]
  gi_wp2
  go_ret
  exact ⟨rfl, rfl⟩
def offs (N k : Nat) : List Nat := (List.range k).map (· * N)
theorem offs_succ (N k : Nat) : offs N (k + 1) = offs N k ++ [k * N] := by simp [offs, List.range_succ]
theorem offs_len (N k : Nat) : (offs N k).length = k := by simp [offs]
def chunkV (ad : Addr) (l N i : Nat) : Value := .slice (some (ad.add i)) (min N (l - i)) (min N (l - i))
theorem offs_lt {len N k j : Nat} (hN : 1 ≤ N) (hj : j = k * N) (h : j < len) : k < (len + N - 1) / N := by
  have : (k + 1) * N ≤ len + N - 1 := by rw [Nat.add_mul, Nat.one_mul, ← hj]; omega
  exact (Nat.le_div_iff_mul_le hN).2 this
theorem offs_end {len N k j : Nat} (hN : 1 ≤ N) (hj : j = k * N) (h : len ≤ j) (h2 : j < len + N) : k = (len + N - 1) / N := by
  have h1 : k ≤ (len + N - 1) / N := (Nat.le_div_iff_mul_le hN).2 (by rw [← hj]; omega)
  have h3 : (len + N - 1) / N < k + 1 := (Nat.div_lt_iff_lt_mul hN).2 (by rw [Nat.add_mul, Nat.one_mul, ← hj]; omega)
  omega
def KeepB (b0 b1 : Nat) (W W' : World) : Prop := W'.heap[b0]? = W.heap[b0]? ∧ W'.heap[b1]? = W.heap[b1]?
set_option maxRecDepth 100000 in
set_option maxHeartbeats 2000000 in
theorem chunk1_in (F : Fence) (n : Nat) (hF : F.fn 101) (hro : F.round = none) (hn : 1 ≤ n) (l b0 b1 : Nat) (ad : Addr) (len c N : Nat) (hN : 1 ≤ N) (hNb : N ≤ 1000) (hlc : len ≤ c) (hc : c ≤ maxLen) (hlen : len ≤ 16777216)
    (J Jx : List Nat → World → Prop) (hJd : ∀ pre W, J pre W → J pre W.drew)
    (hY : ∀ pre i W, J pre W → pre.length < (len + N - 1) / N → YieldAt F (n - 1) Try.prog l #[chunkV ad len N i] W fun e W' =>
      (e = .returned (.bool true) ∧ J (pre ++ [i]) W' ∧ KeepB b0 b1 W W') ∨ (e = .returned (.bool false) ∧ Jx (pre ++ [i]) W'))
    (W : World) (hb0 : Boxed W b0 22 (.slice (some ad) len c)) (hb1 : Boxed W b1 3 (.int .i64 N)) (h0 : J [] W) :
    CallsIn F n Try.prog 101 #[.func (.yield l) #[] #[], .pointer (some ⟨b0, 0, none⟩), .pointer (some ⟨b1, 0, none⟩)] W fun e W' => (∃ v, e = .returned v) ∧
      ((∃ ys, ys = offs N ((len + N - 1) / N) ∧ J ys W') ∨ (∃ pre, True ∧ Jx pre W')) := by
  refine callsIn_of_wp Try.func101 rfl hF ?_ hro
  simp only [Try.ntmps101, List.size_toArray, List.length_cons, List.length_nil, Nat.reduceAdd, Nat.reduceSub, Array.replicate_succ, Array.replicate_zero, List.push_toArray, List.append_toArray, List.nil_append, List.cons_append]
  have hcm : c ≤ 9223372036854775807 := Nat.le_trans hc (by unfold maxLen; omega)
  gi_wp2
  gi_loopw [4] (fun i wr => ∃ k j : Nat, Hid (j = k * N) ∧ j < len + N ∧ i = .int .i64 j ∧ J (offs N k) wr ∧ Boxed wr b0 22 (.slice (some ad) len c) ∧ Boxed wr b1 3 (.int .i64 N))
    (fun i _ => len - (intOf i).toNat)
  case atStart => exact ⟨0, 0, Lib.hid (Nat.zero_mul N).symm, by omega, rfl, h0, hb0, hb1⟩
  case round =>
    obtain ⟨k, j, Hj, hjl, rfl, hJs, p0, p1⟩ := hrel
    have hc0 := p0.cell
    have hc1 := p1.cell
    clear hb0 hb1 h0
    by_cases hlt : j < len
    · obtain ⟨fn, tmps, assign, body, hy, hR⟩ := hY _ j wr.drew (hJd _ _ hJs) (by rw [offs_len]; exact offs_lt hN Hj.out hlt)
      have b0' : (0 : Int) ≤ (j : Int) := by omega
      have b1' : (j : Int) ≤ (len : Int) := by omega
      unfold chunkV at hy
      clear hY hJd hc
      by_cases hle : N ≤ len - j
      · have hmin : min N (len - j) = N := by omega
        rw [hmin] at hy
        gi_wp2
        gi_region
        all_goals gi_wp2
        all_goals
          refine hR.mono ?_
          clear hR hy
          rintro e W3 (⟨rfl, hJ3, k0, k1⟩ | ⟨rfl, hJx3⟩)
        all_goals first
          | (have p0 : Boxed W3 b0 22 (.slice (some ad) len c) := k0.trans p0
             have p1 : Boxed W3 b1 3 (.int .i64 N) := k1.trans p1
             have hc3 := p1.cell
             have P0 := Lib.hid p0; have P1 := Lib.hid p1
             clear hJs k0 k1 p0 p1 hc0 hc1
             gi_wp2
             go_roundw
             case rel => exact ⟨k + 1, j + N, by (show _ = _; rw [Nat.add_mul, Nat.one_mul, ← Hj.out]), by omega, by go_num, by rw [offs_succ, ← Hj.out]; exact hJ3, P0.out, P1.out⟩
             case measure => simp [intOf]; omega)
          | (gi_wp2
             refine bodyPost_ret (results_none rfl _ _ _) rfl ?_
             exact ⟨⟨_, rfl⟩, .inr ⟨_, trivial, hJx3⟩⟩)
      · have hmin : min N (len - j) = len - j := by omega
        rw [hmin] at hy
        gi_wp2
        gi_region
        all_goals gi_wp2
        all_goals
          refine hR.mono ?_
          clear hR hy
          rintro e W3 (⟨rfl, hJ3, k0, k1⟩ | ⟨rfl, hJx3⟩)
        all_goals first
          | (have p0 : Boxed W3 b0 22 (.slice (some ad) len c) := k0.trans p0
             have p1 : Boxed W3 b1 3 (.int .i64 N) := k1.trans p1
             have hc3 := p1.cell
             have P0 := Lib.hid p0; have P1 := Lib.hid p1
             clear hJs k0 k1 p0 p1 hc0 hc1
             gi_wp2
             go_roundw
             case rel => exact ⟨k + 1, j + N, by (show _ = _; rw [Nat.add_mul, Nat.one_mul, ← Hj.out]), by omega, by go_num, by rw [offs_succ, ← Hj.out]; exact hJ3, P0.out, P1.out⟩
             case measure => simp [intOf]; omega)
          | (gi_wp2
             refine bodyPost_ret (results_none rfl _ _ _) rfl ?_
             exact ⟨⟨_, rfl⟩, .inr ⟨_, trivial, hJx3⟩⟩)
    · have hk := offs_end hN Hj.out (by omega) hjl
      rw [hk] at hJs
      clear hk hY hJd
      gi_wp2
      go_end0
      exact ⟨⟨_, rfl⟩, .inl ⟨_, rfl, hJs⟩⟩
theorem chunk_stops (F : Fence) (n : Nat) (hF : F.fn 101) (hro : F.round = none) (hn : 1 ≤ n) (b0 b1 : Nat) (ad : Addr) (len c N : Nat) (hN : 1 ≤ N) (hNb : N ≤ 1000) (hlc : len ≤ c) (hc : c ≤ maxLen) (hlen : len ≤ 16777216)
    (w : World) (hb0 : Boxed w b0 22 (.slice (some ad) len c)) (hb1 : Boxed w b1 3 (.int .i64 N)) :
    SeqStopsK F n Try.prog 101 #[.pointer (some ⟨b0, 0, none⟩), .pointer (some ⟨b1, 0, none⟩)] (fun i : Nat => #[chunkV ad len N i]) (KeepB b0 b1) (fun ys => ys = offs N ((len + N - 1) / N)) (fun _ => True) ((len + N - 1) / N) w := fun l J Jx W hW hJ hJx hY h0 =>
  chunk1_in F n hF hro hn l b0 b1 ad len c N hN hNb hlc hc hlen J Jx (fun pre W' h => hJ pre W' W'.drew none h (grown_drew (World.grownBy.refl _ _)) (fun r e => by cases e)) hY W ((hW.block b0 hb0.lt).trans hb0) ((hW.block b1 hb1.lt).trans hb1) h0
theorem keepB_t {b0 b1 : Nat} {A B C : World} (h : KeepB b0 b1 A B) (k : KeepB b0 b1 B C) : KeepB b0 b1 A C := ⟨k.1.trans h.1, k.2.trans h.2⟩
theorem keepB_b {b0 b1 : Nat} {w : World} (h0 : b0 < w.heap.size) (h1 : b1 < w.heap.size) (W : World) (l : Nat) (o o' : Obj) (hl : w.heap.size ≤ l) (_ : W.heap[l]? = some o) (_ : o.isCells = false) (_ : o.isWalk = false) : KeepB b0 b1 W (W.putObj l o') :=
  ⟨World.putObj_heap_other (by omega), World.putObj_heap_other (by omega)⟩
end Go.Proofs.Ytjheanonklgbcaa

/- The draws of AcknowledgeBy's and IsMajority's arguments. -/
import Derived.Test.YtjheanonklgbcaaDrawV
import Derived.Test.YtjheanonklgbcaaAck
import Derived.Deep.RegionHeld3
import Derived.RegionTactic
namespace Go.Proofs.Ytjheanonklgbcaa
open Go.RowKit
set_option linter.unusedSimpArgs false
set_option linter.unusedVariables false
def Drew4 (w : World) (e : Ending) (w' : World) : Prop := ∃ a b c d : Int, e = .returned (.tuple #[.int .i64 a, .int .i64 b, .int .i64 c, .int .i64 d]) ∧ Below w.heap.size w w'
theorem results_four {fn : Func} {t u v x : Tmp} (h : fn.results = #[.tmp t, .tmp u, .tmp v, .tmp x]) (tmps : Array Value) (P : Program) (w : World) :
    (results fn tmps).run P w = .ok (.tuple #[tmps.getD t undef, tmps.getD u undef, tmps.getD v undef, tmps.getD x undef]) w := by simp [results, h]
set_option maxHeartbeats 2000000 in
theorem s_DrawAcknowledgeBy (A : Option Addr) (n c : Nat) (bs : List Int) (B : Nat) (w : World) (h : BytesAt w B A n c bs) (hB : B ≤ w.heap.size) :
    Calls Try.prog 36 #[.slice A n c] w (Drew4 w) := by
  go_enter Try.func36, Try.ntmps36
  go_wp2_with fail
  refine (s_l01From _ _ _ _ _ _ h hB).mono ?_
  rintro e w1 ⟨g, rfl, S1, hg, hb⟩
  have z1 := hb.size
  have l1 := S1.lt
  go_wp2_with fail
  refine (s_l05DrawNode _ _ _ S1).mono ?_
  rintro e w2 ⟨nd, rfl, _, _, S2, g2⟩
  go_wp2_with fail
  refine (s_l05Draw _ _ _ S2).mono ?_
  rintro e w3 ⟨ow, rfl, _, _, S3, g3⟩
  have G3 := grown_trans' g2 g3 (.inl rfl)
  clear g2 g3 S2
  have Hv := Lib.hid (allIn1 ow)
  go_wp2_with fail
  refine (s_l05Vector _ 1 1 [ow] _ _ (lit_ints w3 [ow] 2 (by simp))).mono ?_
  rintro e w' ⟨rfl, rfl⟩
  rw [Hv.out]
  have S4 := S3.alloc (.cells #[.int .i64 ow] 2)
  have G4 := grown_alloc G3 (.cells #[.int .i64 ow] 2)
  clear S3 G3 hB h
  by_cases hv : vecB ow = true
  · by_cases hn : 0 ≤ nd ∧ nd ≤ 31
    · obtain ⟨hn0, hn1⟩ := hn
      obtain ⟨ho0, ho1⟩ := vecB_bd hv
      obtain ⟨a, rfl⟩ := nat_of ow ho0
      obtain ⟨p, rfl⟩ := nat_of nd hn0
      have ha1 := setN_lt a p true (by omega) (by omega)
      go_wp2_with (first | (go_at_call 60; first | (refine (s_l01In_yes _ _ _ _ ?_ ?_).mono ?_; omega; omega; rintro e w' ⟨rfl, rfl⟩) | (refine (s_l01In_no _ _ _ _ ?_).mono ?_; omega; rintro e w' ⟨rfl, rfl⟩)) | (go_at_call 81; go_in))
      refine (s_l01Next _ _ 12 _ S4).mono ?_
      rintro e w5 ⟨r5, rfl, r50, r51, S5, g5⟩
      have G5 := grown_trans' G4 g5 (.inl rfl)
      clear S4 G4 g5
      by_cases hr : 0 < r5
      · go_wp2_with fail
        refine (s_l05Set a p true _ (by omega) (by omega)).mono ?_
        rintro e w' ⟨rfl, rfl⟩
        go_wp2_with fail
        refine (s_l05Set (setN a p true) p false _ (by omega) (by omega)).mono ?_
        rintro e w' ⟨rfl, rfl⟩
        go_wp2_with fail
        refine (s_l05Draw _ _ _ S5).mono ?_
        rintro e w6 ⟨y, rfl, _, _, S6, g6⟩
        have G6 := grown_trans' G5 g6 (.inl rfl)
        have l6 := S6.lt
        have z6 := G6.size
        have l1 := S1.lt
        clear S5 G5 g6
        go_wp2_with fail
        refine (s_l01Next _ _ 3 _ (S6.alloc _)).mono ?_
        rintro e w7 ⟨r7, rfl, r70, r71, S7, g7⟩
        have hblk := g7.block w6.heap.size (by simp) (by intro e; injection e with e; omega)
        rw [show (w6.alloc (.cells #[.int .i64 (setN a p true : Nat), .int .i64 (setN (setN a p true) p false : Nat), .int .i64 y] 2)).heap[w6.heap.size]? = some (.cells #[.int .i64 (setN a p true : Nat), .int .i64 (setN (setN a p true) p false : Nat), .int .i64 y] 2 (0, 0)) from heap_alloc_new w6 _] at hblk
        have G7 := grown_trans' (grown_alloc G6 _) g7 (.inl rfl)
        clear S6 G6 g7
        generalize ((setN (setN a p true) p false : Nat) : Int) = X2 at hblk ⊢
        generalize ((setN a p true : Nat) : Int) = X1 at hblk ⊢
        have key : ∀ W : World, W.heap[w6.heap.size]? = some (.cells #[.int .i64 X1, .int .i64 X2, .int .i64 y] 2 (0, 0)) → ∀ q : Nat, q < 3 → ∃ v : Int, W.cell? ⟨w6.heap.size, q, none⟩ = some (.int .i64 v) := by
          intro W hW q hq
          rw [cell_of_row _ _ _ _ _ _ hW]
          match q, hq with
          | 0, _ => exact ⟨X1, rfl⟩
          | 1, _ => exact ⟨X2, rfl⟩
          | 2, _ => exact ⟨y, rfl⟩
        obtain ⟨q7, rfl⟩ := nat_of r7 r70
        obtain ⟨v7, hv7⟩ := key w7 hblk q7 (by omega)
        have c0 : (0 : Int) ≤ (q7 : Int) := by omega
        have c1 : (q7 : Int) < 3 := by omega
        have hcall : ∀ W : World, Src W B g → W.heap[w6.heap.size]? = some (.cells #[.int .i64 X1, .int .i64 X2, .int .i64 y] 2 (0, 0)) → w1.grownBy W (some g) →
            Calls Try.prog 75 #[.pointer (some ⟨g, 0, none⟩), .int .i64 3] W fun e w' => ∃ (q : Nat) (v : Int), e = .returned (.int .i64 q) ∧ w'.cell? ⟨w6.heap.size, q, none⟩ = some (.int .i64 v) ∧ w1.grownBy w' (some g) ∧ (0 : Int) ≤ q ∧ (q : Int) < 3 := by
          intro W SW hW GW
          refine (s_l01Next _ _ 3 _ SW).mono ?_
          rintro e w8 ⟨r8, rfl, r80, r81, S8, g8⟩
          have hl : w6.heap.size < W.heap.size := by
            rcases Nat.lt_or_ge w6.heap.size W.heap.size with hlt | hge
            · exact hlt
            · rw [Array.getElem?_eq_none hge] at hW; cases hW
          have hblk8 := (g8.block w6.heap.size hl (by intro e; injection e with e; omega)).trans hW
          obtain ⟨q8, rfl⟩ := nat_of r8 r80
          obtain ⟨v8, hv8⟩ := key w8 hblk8 q8 (by omega)
          exact ⟨q8, v8, rfl, hv8, grown_trans' GW g8 (.inl rfl), by omega, by omega⟩
        have hcd := hcall w7.drew S7 hblk (grown_drew G7)
        have Hc := Lib.hid hcd
        clear hblk key hcall hcd
        go_wp2_with fail
        go_region_with ((go_at_call 75; refine (Hc.out).mono ?_; rintro e w8 ⟨q8, v8, rfl, hc8, G8, d0, d1⟩))
        all_goals
          go_wp2
          exact bodyPost_ret (results_four rfl _ _ _) rfl ⟨_, _, _, _, rfl, src_below hb G8 hg⟩
      · go_wp2_with fail
        refine (s_l05Draw _ _ _ S5).mono ?_
        rintro e w6 ⟨y, rfl, _, _, S6, g6⟩
        go_wp2_with fail
        refine (s_l05Draw _ _ _ S6).mono ?_
        rintro e w7 ⟨y7, rfl, _, _, S7, g7⟩
        have G7 := grown_trans' (grown_trans' G5 g6 (.inl rfl)) g7 (.inl rfl)
        go_wp2
        exact bodyPost_ret (results_four rfl _ _ _) rfl ⟨_, _, _, _, rfl, src_below hb G7 hg⟩
    · have hn' : nd < 0 ∨ 31 < nd := by omega
      clear hn
      go_wp2_with (first | (go_at_call 60; first | (refine (s_l01In_yes _ _ _ _ ?_ ?_).mono ?_; omega; omega; rintro e w' ⟨rfl, rfl⟩) | (refine (s_l01In_no _ _ _ _ ?_).mono ?_; omega; rintro e w' ⟨rfl, rfl⟩)) | (go_at_call 81; go_in))
      refine (s_l05Draw _ _ _ S4).mono ?_
      rintro e w6 ⟨y, rfl, _, _, S6, g6⟩
      go_wp2_with fail
      refine (s_l05Draw _ _ _ S6).mono ?_
      rintro e w7 ⟨y7, rfl, _, _, S7, g7⟩
      have G7 := grown_trans' (grown_trans' G4 g6 (.inl rfl)) g7 (.inl rfl)
      go_wp2
      exact bodyPost_ret (results_four rfl _ _ _) rfl ⟨_, _, _, _, rfl, src_below hb G7 hg⟩
  · have hv' : vecB ow = false := by simpa using hv
    clear hv
    go_wp2_with fail
    refine (s_l05Draw _ _ _ S4).mono ?_
    rintro e w6 ⟨y, rfl, _, _, S6, g6⟩
    go_wp2_with fail
    refine (s_l05Draw _ _ _ S6).mono ?_
    rintro e w7 ⟨y7, rfl, _, _, S7, g7⟩
    have G7 := grown_trans' (grown_trans' G4 g6 (.inl rfl)) g7 (.inl rfl)
    go_wp2
    exact bodyPost_ret (results_four rfl _ _ _) rfl ⟨_, _, _, _, rfl, src_below hb G7 hg⟩
end Go.Proofs.Ytjheanonklgbcaa

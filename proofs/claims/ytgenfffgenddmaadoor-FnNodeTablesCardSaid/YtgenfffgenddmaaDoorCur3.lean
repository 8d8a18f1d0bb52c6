/- The program's cursor: some. -/
import Derived.Test.YtgenfffgenddmaaDoorCur2
namespace Go.Proofs.YtgenfffgenddmaaDoor
open Go.RowKit
set_option linter.unusedSimpArgs false
set_option linter.unusedVariables false
theorem take_nx {xs : List Int} {p q : Nat} (h1 : p ≤ q) (h2 : q < xs.length) : (xs.drop p).take (q + 1 - p) = (xs.drop p).take (q - p) ++ [nxV xs q] := by
  have e : q + 1 - p = (q - p) + 1 := by omega
  rw [e, List.take_add_one, List.getElem?_drop, show p + (q - p) = q by omega, List.getElem?_eq_getElem h2]
  unfold nxV
  rw [if_pos h2]
  simp [List.getD_eq_getElem?_getD, List.getElem?_eq_getElem h2]
def SmPost (g base : Nat) (A : Option Addr) (n c p k : Nat) (past0 : Bool) (xs : List Int) (w : World) (e : Ending) (w' : World) : Prop :=
  ∃ (v : Value) (ys : List Int) (q : Nat) (past : Bool), e = .returned v ∧ IOwn w' base v ys ∧ CurAt w' g A n c q past ∧ q ≤ n ∧ w.grownBy w' (some g) ∧ ys.length ≤ k ∧ (past = false → past0 = false ∧ p + k = q ∧ ys = (xs.drop p).take (q - p)) ∧ (past = true → past0 = true ∨ n < p + k)
set_option maxRecDepth 100000 in
set_option maxHeartbeats 1000000 in
theorem i_some (g : Nat) (A : Option Addr) (n c p k : Nat) (past : Bool) (xs : List Int) (B : Nat) (w : World) (h : CurAt w g A n c p past) (hI : IntsAt w B A n c xs) (hBg : B ≤ g) (hp : p ≤ n) (hk : k ≤ 255) :
    Calls Tryd.prog 76 #[.pointer (some ⟨g, 0, none⟩), .int .i64 k] w (SmPost g w.heap.size A n c p k past xs w) := by
  have hl := hI.len
  have hgl : g < w.heap.size := by
    rcases Nat.lt_or_ge g w.heap.size with hlt | hge
    · exact hlt
    · unfold CurAt at h; rw [Array.getElem?_eq_none hge] at h; cases h
  have HC := Lib.hid (show CurAt (w.alloc (.cells #[] 2)) g A n c p past by unfold CurAt; rw [Below.heap_alloc _ _ _ hgl]; exact h)
  go_enter Tryd.func76, Tryd.ntmps76
  go_wp2_with fail
  go_loopw [1, 5] (fun a v wr => ∃ (kk q : Nat) (pt : Bool) (ys : List Int), a = .int .i64 kk ∧ q ≤ n ∧ ys.length + kk ≤ k ∧ Hid (IOwn wr w.heap.size v ys) ∧ Hid (CurAt wr g A n c q pt) ∧ w.grownBy wr (some g) ∧ Hid (pt = false → past = false ∧ q + kk = p + k ∧ p ≤ q ∧ ys = (xs.drop p).take (q - p)) ∧ Hid (pt = true → past = true ∨ n < p + k)) (fun a _ _ => (intOf a).toNat)
  case atStart => exact ⟨k, p, past, [], rfl, hp, by simp, Lib.hid (lit_own w [] _ (Nat.le_refl _) (by simp)), HC, grown_alloc (World.grownBy.refl _ _) _, Lib.hid (fun hh => ⟨hh, rfl, Nat.le_refl _, by simp⟩), Lib.hid (fun hh => .inl hh)⟩
  case round =>
    clear HC
    obtain ⟨kk, q, pt, ys, rfl, hq, hly, HO, HC, hg, HP, HPT⟩ := hrel
    have zg := hg.size
    obtain ⟨⟨c0, c1, c2⟩, f1, f2⟩ := cur_cells HC.out
    by_cases h0 : 0 < kk
    · have d0 : decide ((0 : Int) < (kk : Int)) = true := by simp; omega
      have d1 : decide (0 < kk) = true := by simp; omega
      cases pt
      · have HN := Lib.hid (i_next g A n c q false xs B wr HC.out (hI.grown hg (by omega) (fun k hk => by injection hk with hk; omega)) hBg hq)
        go_wp2_with fail
        refine HN.out.mono ?_
        rintro e w2 ⟨rfl, C2, g2⟩
        have O2 := HO.out.kept g2 (.inr fun e => by have := (HO.out.lt _ e).1; omega)
        have z2 := g2.size
        have hg2 := grown_trans' hg g2 (.inl rfl)
        clear c0 c1 c2 f1 f2 HN
        have hgg : (Value.pointer none).ownBlock = none := rfl
        go_wp2_with (at_builtin; refine wpList_app _ rfl _ _ 22 rfl w.heap.size Tryd.underlying22 int_info _ ys rfl (O2.alloc _) _ _ 1 1 [nxV xs q] rfl (lit_ints _ [nxV xs q] 2 (by simp)) (by omega) (by rw [World.size_alloc]; omega) ?_; intro v3 w3 O3 g3 ob3)
        have hlt2 : g < w2.heap.size := by omega
        have C3 : CurAt w3 g A n c (if q < n then q + 1 else q) (false || decide (q = n)) := by
          unfold CurAt at *
          rw [g3.block g (by rw [World.size_alloc]; omega) (fun e => by have := (HO.out.lt _ e.symm).1; omega), Below.heap_alloc _ _ _ hlt2]
          exact C2
        have G3 := grown_trans' (grown_alloc hg2 _) g3 (.inr fun k hk => (HO.out.lt k hk).1)
        refine ⟨⟨kk - 1, _, _, _, by congr 1; omega, by split <;> omega, by rw [List.length_append]; simp; omega, Lib.hid O3, Lib.hid C3, G3, Lib.hid (fun hh => ?_), Lib.hid (fun hh => .inr (by have := (HP.out trivial).2.1; simp at hh; omega))⟩, by simp [intOf]; omega⟩
        have hqn : q < n := by simp at hh; omega
        obtain ⟨e0, e1, e2, e3⟩ := HP.out trivial
        rw [if_pos hqn]
        exact ⟨e0, by omega, by omega, by rw [take_nx e2 (by omega), ← e3]⟩
      · go_wp2
        go_ret
        exact ⟨_, ys, q, true, rfl, HO.out, HC.out, hq, hg, by omega, (fun e => by cases e), (fun _ => HPT.out trivial)⟩
    · obtain rfl : kk = 0 := by omega
      go_wp2
      go_ret
      exact ⟨_, ys, q, pt, rfl, HO.out, HC.out, hq, hg, by omega, (fun e => by have := HP.out e; exact ⟨this.1, by omega, this.2.2.2⟩), HPT.out⟩
end Go.Proofs.YtgenfffgenddmaaDoor

/- The contract of the reference's image, and those of ImageOf. -/
import Derived.Test.YtjheanonklgbcaaImg
namespace Go.Proofs.Ytjheanonklgbcaa
open Go.RowKit
set_option linter.unusedSimpArgs false
set_option linter.unusedVariables false
/-- While an image is built, with no parts laid. -/
structure IT (w : World) (o : Value) (xs : List Int) (W : World) : Prop where
  own : IOwn W w.heap.size o xs
  bel : Below w.heap.size w W
section
variable {w W W' : World} {o : Value} {xs ys : List Int}
theorem IT.below (h : IT w o xs W) (b : Below W.heap.size W W') : IT w o xs W' := ⟨h.own.below_ b, h.bel.trans (b.mono h.bel.size)⟩
theorem IT.alloc (h : IT w o xs W) (x : Obj) : IT w o xs (W.alloc x) := h.below ((Below.refl _ _).alloc (Nat.le_refl _) x)
theorem IT.lit {x : Obj} (h : IT w o xs W) (hg : (W.alloc x).grownBy W' (some W.heap.size)) : IT w o xs W' := by
  have h' := h.alloc x
  have hz := h.bel.size
  exact ⟨h'.own.kept hg (.inr (fun e => by have := (h.own.lt _ e).2; omega)), h'.bel.grown hg h'.bel.size (fun k e => by injection e with e; omega)⟩
/-- A row above grows. -/
theorem IT.up {row : Option Nat} {b : Nat} (h : IT w o xs W) (hg : W.grownBy W' row) (hb : ∀ k, o.ownBlock = some k → k < b) (hr : ∀ k, row = some k → b ≤ k) (hw : w.heap.size ≤ b) : IT w o xs W' := by
  refine ⟨h.own.kept hg ?_, h.bel.grown hg h.bel.size (fun k e => by have := hr k e; omega)⟩
  rcases hq : o.ownBlock with _ | k
  · exact .inl rfl
  · exact .inr (fun e => by have h1 := hb k hq; have h2 := hr k e.symm; omega)
theorem IT.app {v' : Value} (h : IT w o xs W) (hown : IOwn W' w.heap.size v' ys) (hg : W.grownBy W' o.ownBlock) : IT w v' ys W' :=
  ⟨hown, h.bel.grown hg h.bel.size (fun k e => (h.own.lt k e).1)⟩
end
theorem cutk_last {w : World} {B n c q N : Nat} {A : Option Addr} {xs : List Int} (h : IntsAt w B A n c xs) (hq : q * N < n) (ht : n ≤ (q + 1) * N) :
    IntsAt w B (A.map (·.add (q * N))) (n - q * N) (c - q * N) (cutL N xs q) := by
  have h1 := h.cut (q * N) n (by omega) (Nat.le_refl _)
  have hle := h.le
  have hN : (q + 1) * N = q * N + N := by rw [Nat.add_mul, Nat.one_mul]
  rw [if_neg (by omega)] at h1
  have e : (xs.drop (q * N)).take (n - q * N) = cutL N xs q := by
    unfold cutL
    rw [List.take_of_length_le (by rw [List.length_drop, h.len]; exact Nat.le_refl _), List.take_of_length_le (by rw [List.length_drop, h.len]; omega)]
  rwa [e] at h1
theorem cutk_full {w : World} {B n c q N : Nat} {A : Option Addr} {xs : List Int} (h : IntsAt w B A n c xs) (h1 : 1 ≤ N) (ht : (q + 1) * N ≤ n) :
    IntsAt w B (A.map (·.add (q * N))) ((q + 1) * N - q * N) (c - q * N) (cutL N xs q) := by
  have hN : (q + 1) * N = q * N + N := by rw [Nat.add_mul, Nat.one_mul]
  have h1 := h.cut (q * N) ((q + 1) * N) (by omega) ht
  have hle := h.le
  rw [if_neg (by omega)] at h1
  rwa [show (xs.drop (q * N)).take ((q + 1) * N - q * N) = cutL N xs q by unfold cutL; rw [hN, Nat.add_sub_cancel_left]] at h1
set_option maxHeartbeats 8000000 in
theorem s_l09Image (A : Option Addr) (n c : Nat) (xs : List Int) (B : Nat) (w : World) (h : IntsAt w B A n c xs) (hB : B ≤ w.heap.size) (hb : ∀ x ∈ xs, 0 ≤ x ∧ x ≤ 255) (hn : n ≤ 868) :
    Calls Try.prog 68 #[.slice A n c] w fun e w' => ∃ u, e = .returned u ∧ IOwn w' w.heap.size u (imgL xs (cutN 28 n)) ∧ Below w.heap.size w w' := by
  have o0 := lit_own w [] w.heap.size (Nat.le_refl _) (by simp)
  have B0 := (Below.refl w.heap.size w).alloc (Nat.le_refl _) (.cells #[] 2)
  have HXL := Lib.hid h.len
  have hle := h.le
  have hcm : c ≤ 9223372036854775807 := Nat.le_trans h.cap (by unfold maxLen; omega)
  obtain ⟨M, hM⟩ : ∃ M, M = cutN 28 n := ⟨_, rfl⟩
  rw [← hM]
  have hM1 : M ≤ 31 := by rw [hM]; unfold cutN; split <;> omega
  have hM0 : 1 ≤ M := by rw [hM]; unfold cutN; split <;> omega
  have hMj : ∀ j : Nat, j < M → 28 * j ≤ n ∧ (j = 0 ∨ 28 * j < n) := by
    intro j hj
    rw [hM] at hj
    unfold cutN at hj
    split at hj <;> omega
  have hMe : n ≤ 28 * M := by rw [hM]; unfold cutN; split <;> omega
  have hMn : n = 0 → M = 1 := fun e => by rw [hM, e]; rfl
  clear hM
  have HMj := Lib.hid hMj
  have HMn := Lib.hid hMn
  have HB := Lib.hid hb
  have hI := Lib.hid h
  clear hMj hb h hMn
  have hn3 : (n : Int) ≤ 868 := by omega
  have hnc : (n : Int) ≤ (c : Int) := by omega
  go_enter Try.func68, Try.ntmps68
  go_wp2
  go_loopw [3, 4, 5, 6, 7, 8] (fun o i _ _ _ _ wr => ∃ j : Nat, j ≤ M ∧ i = .int .i64 j ∧ IT w o (imgL xs j) wr) (fun _ i _ _ _ _ _ => M - (intOf i).toNat)
  case atStart => exact ⟨0, by omega, rfl, o0, B0⟩
  case round =>
    clear o0 B0
    obtain ⟨j, hj, rfl, S⟩ := hrel
    have zw := S.bel.size
    by_cases hlt : j < M
    · obtain ⟨hj28, hjj⟩ := HMj.out j hlt
      have hj1 : (j : Int) ≤ 40 := by omega
      have hHl := blkH_len xs j
      have HHL := Lib.hid (show (blkH xs j).length ≤ 30 by omega)
      have HD := Lib.hid (imgL_len xs j)
      have HK := Lib.hid (fun (A' : Option Addr) (n' c' B' : Nat) (W : World) (hI : IntsAt W B' A' n' c' (blkH xs j)) (hB' : B' ≤ W.heap.size) (hn' : n' ≤ 2000) => s_l09Check j A' n' c' (blkH xs j) B' W hI hB' (blkH_mem HB.out (by omega)) hn' (by omega))
      have HS := Lib.hid (show imgL xs (j + 1) = (imgL xs j ++ blkH xs j) ++ three (regC j (blkH xs j)) from rfl)
      have hNN := regC_lt j (blkH xs j) (by omega)
      clear hHl
      rcases hjj with hj0 | hjn
      · have hj0' : ((j : Int) == 0) = true := by simp; omega
        by_cases hn0 : n = 0
        · have hnI : (n : Int) ≤ 0 := by omega
          have hjI : (j : Int) ≤ 0 := by omega
          have hx : xs = [] := List.eq_nil_of_length_eq_zero (by rw [HXL.out]; exact hn0)
          subst hj0 hn0
          have I2 : IntsAt wr B A 0 c (cutL 28 xs 0) := by
            have := hI.out.below' hB S.bel
            rw [hx] at this ⊢
            exact this
          have hH : [((0 : Nat) : Int), (128 : Int)] ++ cutL 28 xs 0 = blkH xs 0 := by rw [hx]; rfl
          clear hx
          have HH := Lib.hid hH
          generalize cutL 28 xs 0 = Y at *
          generalize blkH xs 0 = H at *
          generalize regC 0 H = N at *
          clear hH
          have hSl : ∀ k, Value.ownBlock u3 = some k → k < wr.heap.size := fun k e => (S.own.lt k e).2
          have HSl := Lib.hid hSl
          clear hSl
          have E3 := Lib.hid (show [(N : Int) / 65536, (N : Int) / 256 % 256, (N : Int) % 256] = three N by simp [three])
          go_wp2_with (first
            | (at_builtin; refine wpList_app _ rfl _ _ 22 rfl wr.heap.size Try.underlying22 int_info (.slice (some ⟨wr.heap.size, 0, none⟩) 2 2) [((0 : Nat) : Int), (128 : Int)] rfl (lit_own wr [((0 : Nat) : Int), (128 : Int)] wr.heap.size (Nat.le_refl _) (by simp)) _ _ _ _ Y rfl (I2.alloc (by omega) _) (by simp <;> omega) (by simp) ?_; intro v1 w1 O1 g1 hb1; have S1 := S.lit g1; rw [HH.out] at O1; have z1 : wr.heap.size ≤ w1.heap.size := (by have := g1.size; rw [World.size_alloc] at this; omega); obtain ⟨A1, c1, rfl, I1⟩ := O1.ints (by have := HHL.out; omega))
            | (go_at_call 96; refine (HK.out _ _ _ _ _ I1 (Nat.le_refl _) (by have := HHL.out; omega)).mono ?_; rintro e w3 ⟨rfl, b3⟩; have S3 := S1.below b3; have O3 := O1.below_ b3; have z3 := b3.size)
            | (at_builtin; refine wpList_app _ rfl _ _ 22 rfl wr.heap.size Try.underlying22 int_info (.slice A1 H.length c1) H rfl (O3.alloc _) _ _ 3 3 [(N : Int) / 65536, (N : Int) / 256 % 256, (N : Int) % 256] rfl (lit_ints w3 [(N : Int) / 65536, (N : Int) / 256 % 256, (N : Int) % 256] 2 (by simp)) (by have := HHL.out; omega) (by rw [World.size_alloc]; omega) ?_; intro v5 w5 O5 g5 hb5; have S5 := (S3.alloc _).up (b := wr.heap.size) g5 HSl.out (fun k e => (O3.lt k e).1) zw; rw [E3.out] at O5; obtain ⟨A5, c5, rfl, I5⟩ := O5.ints (by have := HHL.out; rw [List.length_append, three_len]; omega))
            | (at_builtin; refine wpList_app _ rfl _ _ 22 rfl w.heap.size Try.underlying22 int_info _ (imgL xs 0) rfl S5.own _ _ _ _ (H ++ three N) rfl I5 (by have := HD.out; have := HHL.out; rw [List.length_append, three_len]; omega) S5.bel.size ?_; intro v6 w6 O6 g6 hb6; have S6 := S5.app O6 g6))
          clear g1 g5 g6 hb1 hb5 hb6 O1 O3 O5 O6 I1 I5 S1 S3 S5 b3 HK
          go_wp2
          go_roundw
          case rel => exact ⟨0 + 1, by omega, by go_num, by rw [HS.out, List.append_assoc]; exact S6⟩
          case measure => simp [intOf]; omega
        · have hjn : 28 * j < n := by omega
          have hj2 : (j : Int) * 28 < (n : Int) := by omega
          clear hj0 hn0
          by_cases hla : n ≤ (j + 1) * 28
          · have hla' : (n : Int) ≤ ((j : Int) + 1) * 28 := by omega
            have I2 := cutk_last (N := 28) (hI.out.below' hB S.bel) (by omega) hla
            have hl2' : ((n - j * 28 : Nat) : Int) ≤ 28 := by omega
            have hH : [(j : Int), ((n - j * 28 : Nat) : Int) + 128] ++ cutL 28 xs j = blkH xs j := by unfold blkH; rw [if_pos (by rw [HXL.out]; exact hla), I2.len]
            have HH := Lib.hid hH
            generalize cutL 28 xs j = Y at *
            generalize blkH xs j = H at *
            generalize regC j H = N at *
            clear hH
            have hSl : ∀ k, Value.ownBlock u3 = some k → k < wr.heap.size := fun k e => (S.own.lt k e).2
            have HSl := Lib.hid hSl
            clear hSl
            have E3 := Lib.hid (show [(N : Int) / 65536, (N : Int) / 256 % 256, (N : Int) % 256] = three N by simp [three])
            go_wp2_with (first
              | (at_builtin; refine wpList_app _ rfl _ _ 22 rfl wr.heap.size Try.underlying22 int_info (.slice (some ⟨wr.heap.size, 0, none⟩) 2 2) [(j : Int), ((n - j * 28 : Nat) : Int) + 128] rfl (lit_own wr [(j : Int), ((n - j * 28 : Nat) : Int) + 128] wr.heap.size (Nat.le_refl _) (by simp)) _ _ _ _ Y rfl (I2.alloc (by omega) _) (by simp <;> omega) (by simp) ?_; intro v1 w1 O1 g1 hb1; have S1 := S.lit g1; rw [HH.out] at O1; have z1 : wr.heap.size ≤ w1.heap.size := (by have := g1.size; rw [World.size_alloc] at this; omega); obtain ⟨A1, c1, rfl, I1⟩ := O1.ints (by have := HHL.out; omega))
              | (go_at_call 96; refine (HK.out _ _ _ _ _ I1 (Nat.le_refl _) (by have := HHL.out; omega)).mono ?_; rintro e w3 ⟨rfl, b3⟩; have S3 := S1.below b3; have O3 := O1.below_ b3; have z3 := b3.size)
              | (at_builtin; refine wpList_app _ rfl _ _ 22 rfl wr.heap.size Try.underlying22 int_info (.slice A1 H.length c1) H rfl (O3.alloc _) _ _ 3 3 [(N : Int) / 65536, (N : Int) / 256 % 256, (N : Int) % 256] rfl (lit_ints w3 [(N : Int) / 65536, (N : Int) / 256 % 256, (N : Int) % 256] 2 (by simp)) (by have := HHL.out; omega) (by rw [World.size_alloc]; omega) ?_; intro v5 w5 O5 g5 hb5; have S5 := (S3.alloc _).up (b := wr.heap.size) g5 HSl.out (fun k e => (O3.lt k e).1) zw; rw [E3.out] at O5; obtain ⟨A5, c5, rfl, I5⟩ := O5.ints (by have := HHL.out; rw [List.length_append, three_len]; omega))
              | (at_builtin; refine wpList_app _ rfl _ _ 22 rfl w.heap.size Try.underlying22 int_info _ (imgL xs j) rfl S5.own _ _ _ _ (H ++ three N) rfl I5 (by have := HD.out; have := HHL.out; rw [List.length_append, three_len]; omega) S5.bel.size ?_; intro v6 w6 O6 g6 hb6; have S6 := S5.app O6 g6))
            clear g1 g5 g6 hb1 hb5 hb6 O1 O3 O5 O6 I1 I5 S1 S3 S5 b3 HK
            go_wp2
            go_roundw
            case rel => exact ⟨j + 1, by omega, by go_num, by rw [HS.out, List.append_assoc]; exact S6⟩
            case measure => simp [intOf]; omega
          · have hla' : ((j : Int) + 1) * 28 < (n : Int) := by omega
            have I2 := cutk_full (N := 28) (q := j) (hI.out.below' hB S.bel) (by omega) (by omega)
            have ht1 : (((j : Int) + 1) * 28).toNat = (j + 1) * 28 := by omega
            have ht2 : (j + 1) * 28 - j * 28 = 28 := by omega
            have hH : [(j : Int), (28 : Int)] ++ cutL 28 xs j = blkH xs j := by unfold blkH; rw [if_neg (by rw [HXL.out]; exact hla), I2.len, ht2]; rfl
            have HH := Lib.hid hH
            generalize cutL 28 xs j = Y at *
            generalize blkH xs j = H at *
            generalize regC j H = N at *
            clear hH
            have hSl : ∀ k, Value.ownBlock u3 = some k → k < wr.heap.size := fun k e => (S.own.lt k e).2
            have HSl := Lib.hid hSl
            clear hSl
            have E3 := Lib.hid (show [(N : Int) / 65536, (N : Int) / 256 % 256, (N : Int) % 256] = three N by simp [three])
            go_wp2_with (first
              | (at_builtin; refine wpList_app _ rfl _ _ 22 rfl wr.heap.size Try.underlying22 int_info (.slice (some ⟨wr.heap.size, 0, none⟩) 2 2) [(j : Int), (28 : Int)] rfl (lit_own wr [(j : Int), (28 : Int)] wr.heap.size (Nat.le_refl _) (by simp)) _ _ _ _ Y rfl (I2.alloc (by omega) _) (by simp <;> omega) (by simp) ?_; intro v1 w1 O1 g1 hb1; have S1 := S.lit g1; rw [HH.out] at O1; have z1 : wr.heap.size ≤ w1.heap.size := (by have := g1.size; rw [World.size_alloc] at this; omega); obtain ⟨A1, c1, rfl, I1⟩ := O1.ints (by have := HHL.out; omega))
              | (go_at_call 96; refine (HK.out _ _ _ _ _ I1 (Nat.le_refl _) (by have := HHL.out; omega)).mono ?_; rintro e w3 ⟨rfl, b3⟩; have S3 := S1.below b3; have O3 := O1.below_ b3; have z3 := b3.size)
              | (at_builtin; refine wpList_app _ rfl _ _ 22 rfl wr.heap.size Try.underlying22 int_info (.slice A1 H.length c1) H rfl (O3.alloc _) _ _ 3 3 [(N : Int) / 65536, (N : Int) / 256 % 256, (N : Int) % 256] rfl (lit_ints w3 [(N : Int) / 65536, (N : Int) / 256 % 256, (N : Int) % 256] 2 (by simp)) (by have := HHL.out; omega) (by rw [World.size_alloc]; omega) ?_; intro v5 w5 O5 g5 hb5; have S5 := (S3.alloc _).up (b := wr.heap.size) g5 HSl.out (fun k e => (O3.lt k e).1) zw; rw [E3.out] at O5; obtain ⟨A5, c5, rfl, I5⟩ := O5.ints (by have := HHL.out; rw [List.length_append, three_len]; omega))
              | (at_builtin; refine wpList_app _ rfl _ _ 22 rfl w.heap.size Try.underlying22 int_info _ (imgL xs j) rfl S5.own _ _ _ _ (H ++ three N) rfl I5 (by have := HD.out; have := HHL.out; rw [List.length_append, three_len]; omega) S5.bel.size ?_; intro v6 w6 O6 g6 hb6; have S6 := S5.app O6 g6))
            clear g1 g5 g6 hb1 hb5 hb6 O1 O3 O5 O6 I1 I5 S1 S3 S5 b3 HK
            go_wp2
            go_roundw
            case rel => exact ⟨j + 1, by omega, by go_num, by rw [HS.out, List.append_assoc]; exact S6⟩
            case measure => simp [intOf]; omega
      · by_cases hjz : j = 0
        · have hj0' : ((j : Int) == 0) = true := by simp; omega
          have hj2 : (j : Int) * 28 < (n : Int) := by omega
          clear hjz
          by_cases hla : n ≤ (j + 1) * 28
          · have hla' : (n : Int) ≤ ((j : Int) + 1) * 28 := by omega
            have I2 := cutk_last (N := 28) (hI.out.below' hB S.bel) (by omega) hla
            have hl2' : ((n - j * 28 : Nat) : Int) ≤ 28 := by omega
            have hH : [(j : Int), ((n - j * 28 : Nat) : Int) + 128] ++ cutL 28 xs j = blkH xs j := by unfold blkH; rw [if_pos (by rw [HXL.out]; exact hla), I2.len]
            have HH := Lib.hid hH
            generalize cutL 28 xs j = Y at *
            generalize blkH xs j = H at *
            generalize regC j H = N at *
            clear hH
            have hSl : ∀ k, Value.ownBlock u3 = some k → k < wr.heap.size := fun k e => (S.own.lt k e).2
            have HSl := Lib.hid hSl
            clear hSl
            have E3 := Lib.hid (show [(N : Int) / 65536, (N : Int) / 256 % 256, (N : Int) % 256] = three N by simp [three])
            go_wp2_with (first
              | (at_builtin; refine wpList_app _ rfl _ _ 22 rfl wr.heap.size Try.underlying22 int_info (.slice (some ⟨wr.heap.size, 0, none⟩) 2 2) [(j : Int), ((n - j * 28 : Nat) : Int) + 128] rfl (lit_own wr [(j : Int), ((n - j * 28 : Nat) : Int) + 128] wr.heap.size (Nat.le_refl _) (by simp)) _ _ _ _ Y rfl (I2.alloc (by omega) _) (by simp <;> omega) (by simp) ?_; intro v1 w1 O1 g1 hb1; have S1 := S.lit g1; rw [HH.out] at O1; have z1 : wr.heap.size ≤ w1.heap.size := (by have := g1.size; rw [World.size_alloc] at this; omega); obtain ⟨A1, c1, rfl, I1⟩ := O1.ints (by have := HHL.out; omega))
              | (go_at_call 96; refine (HK.out _ _ _ _ _ I1 (Nat.le_refl _) (by have := HHL.out; omega)).mono ?_; rintro e w3 ⟨rfl, b3⟩; have S3 := S1.below b3; have O3 := O1.below_ b3; have z3 := b3.size)
              | (at_builtin; refine wpList_app _ rfl _ _ 22 rfl wr.heap.size Try.underlying22 int_info (.slice A1 H.length c1) H rfl (O3.alloc _) _ _ 3 3 [(N : Int) / 65536, (N : Int) / 256 % 256, (N : Int) % 256] rfl (lit_ints w3 [(N : Int) / 65536, (N : Int) / 256 % 256, (N : Int) % 256] 2 (by simp)) (by have := HHL.out; omega) (by rw [World.size_alloc]; omega) ?_; intro v5 w5 O5 g5 hb5; have S5 := (S3.alloc _).up (b := wr.heap.size) g5 HSl.out (fun k e => (O3.lt k e).1) zw; rw [E3.out] at O5; obtain ⟨A5, c5, rfl, I5⟩ := O5.ints (by have := HHL.out; rw [List.length_append, three_len]; omega))
              | (at_builtin; refine wpList_app _ rfl _ _ 22 rfl w.heap.size Try.underlying22 int_info _ (imgL xs j) rfl S5.own _ _ _ _ (H ++ three N) rfl I5 (by have := HD.out; have := HHL.out; rw [List.length_append, three_len]; omega) S5.bel.size ?_; intro v6 w6 O6 g6 hb6; have S6 := S5.app O6 g6))
            clear g1 g5 g6 hb1 hb5 hb6 O1 O3 O5 O6 I1 I5 S1 S3 S5 b3 HK
            go_wp2
            go_roundw
            case rel => exact ⟨j + 1, by omega, by go_num, by rw [HS.out, List.append_assoc]; exact S6⟩
            case measure => simp [intOf]; omega
          · have hla' : ((j : Int) + 1) * 28 < (n : Int) := by omega
            have I2 := cutk_full (N := 28) (q := j) (hI.out.below' hB S.bel) (by omega) (by omega)
            have ht1 : (((j : Int) + 1) * 28).toNat = (j + 1) * 28 := by omega
            have ht2 : (j + 1) * 28 - j * 28 = 28 := by omega
            have hH : [(j : Int), (28 : Int)] ++ cutL 28 xs j = blkH xs j := by unfold blkH; rw [if_neg (by rw [HXL.out]; exact hla), I2.len, ht2]; rfl
            have HH := Lib.hid hH
            generalize cutL 28 xs j = Y at *
            generalize blkH xs j = H at *
            generalize regC j H = N at *
            clear hH
            have hSl : ∀ k, Value.ownBlock u3 = some k → k < wr.heap.size := fun k e => (S.own.lt k e).2
            have HSl := Lib.hid hSl
            clear hSl
            have E3 := Lib.hid (show [(N : Int) / 65536, (N : Int) / 256 % 256, (N : Int) % 256] = three N by simp [three])
            go_wp2_with (first
              | (at_builtin; refine wpList_app _ rfl _ _ 22 rfl wr.heap.size Try.underlying22 int_info (.slice (some ⟨wr.heap.size, 0, none⟩) 2 2) [(j : Int), (28 : Int)] rfl (lit_own wr [(j : Int), (28 : Int)] wr.heap.size (Nat.le_refl _) (by simp)) _ _ _ _ Y rfl (I2.alloc (by omega) _) (by simp <;> omega) (by simp) ?_; intro v1 w1 O1 g1 hb1; have S1 := S.lit g1; rw [HH.out] at O1; have z1 : wr.heap.size ≤ w1.heap.size := (by have := g1.size; rw [World.size_alloc] at this; omega); obtain ⟨A1, c1, rfl, I1⟩ := O1.ints (by have := HHL.out; omega))
              | (go_at_call 96; refine (HK.out _ _ _ _ _ I1 (Nat.le_refl _) (by have := HHL.out; omega)).mono ?_; rintro e w3 ⟨rfl, b3⟩; have S3 := S1.below b3; have O3 := O1.below_ b3; have z3 := b3.size)
              | (at_builtin; refine wpList_app _ rfl _ _ 22 rfl wr.heap.size Try.underlying22 int_info (.slice A1 H.length c1) H rfl (O3.alloc _) _ _ 3 3 [(N : Int) / 65536, (N : Int) / 256 % 256, (N : Int) % 256] rfl (lit_ints w3 [(N : Int) / 65536, (N : Int) / 256 % 256, (N : Int) % 256] 2 (by simp)) (by have := HHL.out; omega) (by rw [World.size_alloc]; omega) ?_; intro v5 w5 O5 g5 hb5; have S5 := (S3.alloc _).up (b := wr.heap.size) g5 HSl.out (fun k e => (O3.lt k e).1) zw; rw [E3.out] at O5; obtain ⟨A5, c5, rfl, I5⟩ := O5.ints (by have := HHL.out; rw [List.length_append, three_len]; omega))
              | (at_builtin; refine wpList_app _ rfl _ _ 22 rfl w.heap.size Try.underlying22 int_info _ (imgL xs j) rfl S5.own _ _ _ _ (H ++ three N) rfl I5 (by have := HD.out; have := HHL.out; rw [List.length_append, three_len]; omega) S5.bel.size ?_; intro v6 w6 O6 g6 hb6; have S6 := S5.app O6 g6))
            clear g1 g5 g6 hb1 hb5 hb6 O1 O3 O5 O6 I1 I5 S1 S3 S5 b3 HK
            go_wp2
            go_roundw
            case rel => exact ⟨j + 1, by omega, by go_num, by rw [HS.out, List.append_assoc]; exact S6⟩
            case measure => simp [intOf]; omega
        · have hj0' : ((j : Int) == 0) = false := by simp; omega
          have hj2 : (j : Int) * 28 < (n : Int) := by omega
          clear hjz
          by_cases hla : n ≤ (j + 1) * 28
          · have hla' : (n : Int) ≤ ((j : Int) + 1) * 28 := by omega
            have I2 := cutk_last (N := 28) (hI.out.below' hB S.bel) (by omega) hla
            have hl2' : ((n - j * 28 : Nat) : Int) ≤ 28 := by omega
            have hH : [(j : Int), ((n - j * 28 : Nat) : Int) + 128] ++ cutL 28 xs j = blkH xs j := by unfold blkH; rw [if_pos (by rw [HXL.out]; exact hla), I2.len]
            have HH := Lib.hid hH
            generalize cutL 28 xs j = Y at *
            generalize blkH xs j = H at *
            generalize regC j H = N at *
            clear hH
            have hSl : ∀ k, Value.ownBlock u3 = some k → k < wr.heap.size := fun k e => (S.own.lt k e).2
            have HSl := Lib.hid hSl
            clear hSl
            have E3 := Lib.hid (show [(N : Int) / 65536, (N : Int) / 256 % 256, (N : Int) % 256] = three N by simp [three])
            go_wp2_with (first
              | (at_builtin; refine wpList_app _ rfl _ _ 22 rfl wr.heap.size Try.underlying22 int_info (.slice (some ⟨wr.heap.size, 0, none⟩) 2 2) [(j : Int), ((n - j * 28 : Nat) : Int) + 128] rfl (lit_own wr [(j : Int), ((n - j * 28 : Nat) : Int) + 128] wr.heap.size (Nat.le_refl _) (by simp)) _ _ _ _ Y rfl (I2.alloc (by omega) _) (by simp <;> omega) (by simp) ?_; intro v1 w1 O1 g1 hb1; have S1 := S.lit g1; rw [HH.out] at O1; have z1 : wr.heap.size ≤ w1.heap.size := (by have := g1.size; rw [World.size_alloc] at this; omega); obtain ⟨A1, c1, rfl, I1⟩ := O1.ints (by have := HHL.out; omega))
              | (go_at_call 96; refine (HK.out _ _ _ _ _ I1 (Nat.le_refl _) (by have := HHL.out; omega)).mono ?_; rintro e w3 ⟨rfl, b3⟩; have S3 := S1.below b3; have O3 := O1.below_ b3; have z3 := b3.size)
              | (at_builtin; refine wpList_app _ rfl _ _ 22 rfl wr.heap.size Try.underlying22 int_info (.slice A1 H.length c1) H rfl (O3.alloc _) _ _ 3 3 [(N : Int) / 65536, (N : Int) / 256 % 256, (N : Int) % 256] rfl (lit_ints w3 [(N : Int) / 65536, (N : Int) / 256 % 256, (N : Int) % 256] 2 (by simp)) (by have := HHL.out; omega) (by rw [World.size_alloc]; omega) ?_; intro v5 w5 O5 g5 hb5; have S5 := (S3.alloc _).up (b := wr.heap.size) g5 HSl.out (fun k e => (O3.lt k e).1) zw; rw [E3.out] at O5; obtain ⟨A5, c5, rfl, I5⟩ := O5.ints (by have := HHL.out; rw [List.length_append, three_len]; omega))
              | (at_builtin; refine wpList_app _ rfl _ _ 22 rfl w.heap.size Try.underlying22 int_info _ (imgL xs j) rfl S5.own _ _ _ _ (H ++ three N) rfl I5 (by have := HD.out; have := HHL.out; rw [List.length_append, three_len]; omega) S5.bel.size ?_; intro v6 w6 O6 g6 hb6; have S6 := S5.app O6 g6))
            clear g1 g5 g6 hb1 hb5 hb6 O1 O3 O5 O6 I1 I5 S1 S3 S5 b3 HK
            go_wp2
            go_roundw
            case rel => exact ⟨j + 1, by omega, by go_num, by rw [HS.out, List.append_assoc]; exact S6⟩
            case measure => simp [intOf]; omega
          · have hla' : ((j : Int) + 1) * 28 < (n : Int) := by omega
            have I2 := cutk_full (N := 28) (q := j) (hI.out.below' hB S.bel) (by omega) (by omega)
            have ht1 : (((j : Int) + 1) * 28).toNat = (j + 1) * 28 := by omega
            have ht2 : (j + 1) * 28 - j * 28 = 28 := by omega
            have hH : [(j : Int), (28 : Int)] ++ cutL 28 xs j = blkH xs j := by unfold blkH; rw [if_neg (by rw [HXL.out]; exact hla), I2.len, ht2]; rfl
            have HH := Lib.hid hH
            generalize cutL 28 xs j = Y at *
            generalize blkH xs j = H at *
            generalize regC j H = N at *
            clear hH
            have hSl : ∀ k, Value.ownBlock u3 = some k → k < wr.heap.size := fun k e => (S.own.lt k e).2
            have HSl := Lib.hid hSl
            clear hSl
            have E3 := Lib.hid (show [(N : Int) / 65536, (N : Int) / 256 % 256, (N : Int) % 256] = three N by simp [three])
            go_wp2_with (first
              | (at_builtin; refine wpList_app _ rfl _ _ 22 rfl wr.heap.size Try.underlying22 int_info (.slice (some ⟨wr.heap.size, 0, none⟩) 2 2) [(j : Int), (28 : Int)] rfl (lit_own wr [(j : Int), (28 : Int)] wr.heap.size (Nat.le_refl _) (by simp)) _ _ _ _ Y rfl (I2.alloc (by omega) _) (by simp <;> omega) (by simp) ?_; intro v1 w1 O1 g1 hb1; have S1 := S.lit g1; rw [HH.out] at O1; have z1 : wr.heap.size ≤ w1.heap.size := (by have := g1.size; rw [World.size_alloc] at this; omega); obtain ⟨A1, c1, rfl, I1⟩ := O1.ints (by have := HHL.out; omega))
              | (go_at_call 96; refine (HK.out _ _ _ _ _ I1 (Nat.le_refl _) (by have := HHL.out; omega)).mono ?_; rintro e w3 ⟨rfl, b3⟩; have S3 := S1.below b3; have O3 := O1.below_ b3; have z3 := b3.size)
              | (at_builtin; refine wpList_app _ rfl _ _ 22 rfl wr.heap.size Try.underlying22 int_info (.slice A1 H.length c1) H rfl (O3.alloc _) _ _ 3 3 [(N : Int) / 65536, (N : Int) / 256 % 256, (N : Int) % 256] rfl (lit_ints w3 [(N : Int) / 65536, (N : Int) / 256 % 256, (N : Int) % 256] 2 (by simp)) (by have := HHL.out; omega) (by rw [World.size_alloc]; omega) ?_; intro v5 w5 O5 g5 hb5; have S5 := (S3.alloc _).up (b := wr.heap.size) g5 HSl.out (fun k e => (O3.lt k e).1) zw; rw [E3.out] at O5; obtain ⟨A5, c5, rfl, I5⟩ := O5.ints (by have := HHL.out; rw [List.length_append, three_len]; omega))
              | (at_builtin; refine wpList_app _ rfl _ _ 22 rfl w.heap.size Try.underlying22 int_info _ (imgL xs j) rfl S5.own _ _ _ _ (H ++ three N) rfl I5 (by have := HD.out; have := HHL.out; rw [List.length_append, three_len]; omega) S5.bel.size ?_; intro v6 w6 O6 g6 hb6; have S6 := S5.app O6 g6))
            clear g1 g5 g6 hb1 hb5 hb6 O1 O3 O5 O6 I1 I5 S1 S3 S5 b3 HK
            go_wp2
            go_roundw
            case rel => exact ⟨j + 1, by omega, by go_num, by rw [HS.out, List.append_assoc]; exact S6⟩
            case measure => simp [intOf]; omega
    · have hjM : j = M := by omega
      have HO := Lib.hid (show IOwn wr w.heap.size u3 (imgL xs M) by rw [← hjM]; exact S.own)
      have hj0' : ((j : Int) == 0) = false := by simp; omega
      have hj2 : (n : Int) ≤ (j : Int) * 28 := by omega
      have hj1 : (j : Int) ≤ 40 := by omega
      have BW := S.bel
      clear hjM S
      go_wp2
      go_ret
      exact ⟨_, rfl, HO.out, BW⟩
end Go.Proofs.Ytjheanonklgbcaa

/- Contracts of the reference's IsFrame. -/
import Derived.Test.YtecelofoffdjlaaFrmI
namespace Go.Proofs.Ytecelofoffdjlaa
open Go.RowKit
set_option linter.unusedSimpArgs false
set_option linter.unusedVariables false
set_option maxHeartbeats 2000000 in
theorem s_IsFrame (k q t m r s v : Int) (A : Option Addr) (n c : Nat) (xs : List Int) (B : Nat) (w : World) (h : IntsAt w B A n c xs) (hB : B ≤ w.heap.size) :
    Calls Try.prog 36 #[.agg #[.int .i64 k, .int .i64 q, .int .i64 t, .int .i64 m, .int .i64 r, .int .i64 s, .int .i64 v, .slice A n c]] w fun e w' => e = .returned (.bool (frOk k q t m r s v xs)) ∧ Below w.heap.size w w' := by
  have hI := h.alloc hB (.cells #[.int .i64 k, .int .i64 q, .int .i64 t, .int .i64 m, .int .i64 r, .int .i64 s, .int .i64 v, .slice A n c] 47)
  have hl := h.len
  have hn := h.small
  subst hl
  rcases fr_ways k q t m r s v xs with ⟨h1, hf⟩ | ⟨h1, h2, hf⟩ | ⟨h1, h2, h3, hf⟩ | ⟨h1, h2, h3, h4, hf⟩ | ⟨rfl, h2, h3, h4, hf⟩ | ⟨rfl, h2, h3, h4, hf⟩ | ⟨h1, h10, h13, h2, h3, h4, hf⟩
  · rw [hf]; clear hf h
    go_enter Try.func36, Try.ntmps36
    go_wp2_with (first | (go_at_call 79; first | (refine (s_l01In_yes _ _ _ _ ?_ ?_).mono ?_; omega; omega; rintro e w' ⟨rfl, rfl⟩) | (refine (s_l01In_no _ _ _ _ ?_).mono ?_; omega; rintro e w' ⟨rfl, rfl⟩)) | go_in)
    go_ret
    exact ⟨rfl, (Below.refl _ _).alloc (Nat.le_refl _) _⟩
  · rw [hf]; clear hf h
    go_enter Try.func36, Try.ntmps36
    go_wp2_with (first | (go_at_call 79; first | (refine (s_l01In_yes _ _ _ _ ?_ ?_).mono ?_; omega; omega; rintro e w' ⟨rfl, rfl⟩) | (refine (s_l01In_no _ _ _ _ ?_).mono ?_; omega; rintro e w' ⟨rfl, rfl⟩)) | go_in)
    go_ret
    exact ⟨rfl, (Below.refl _ _).alloc (Nat.le_refl _) _⟩
  · rw [hf]; clear hf h
    have H3 := Lib.hid h3; clear h3
    go_enter Try.func36, Try.ntmps36
    go_wp2_with (first | (go_at_call 80; refine (s_l06Size _ _ _).mono ?_; rintro e w' ⟨rfl, rfl⟩; rw [H3.out]) | (go_at_call 79; first | (refine (s_l01In_yes _ _ _ _ ?_ ?_).mono ?_; omega; omega; rintro e w' ⟨rfl, rfl⟩) | (refine (s_l01In_no _ _ _ _ ?_).mono ?_; omega; rintro e w' ⟨rfl, rfl⟩)) | go_in)
    go_ret
    exact ⟨rfl, (Below.refl _ _).alloc (Nat.le_refl _) _⟩
  · rw [hf]; clear hf h
    have H3 := Lib.hid h3; clear h3
    have H4 := Lib.hid h4; clear h4
    go_enter Try.func36, Try.ntmps36
    go_wp2_with (first | (go_at_call 80; refine (s_l06Size _ _ _).mono ?_; rintro e w' ⟨rfl, rfl⟩; rw [H3.out]) | (go_at_call 69; refine (s_IsBytes _ _ _ _ _ _ hI).mono ?_; rintro e w' ⟨rfl, rfl⟩; rw [H4.out]) | (go_at_call 79; first | (refine (s_l01In_yes _ _ _ _ ?_ ?_).mono ?_; omega; omega; rintro e w' ⟨rfl, rfl⟩) | (refine (s_l01In_no _ _ _ _ ?_).mono ?_; omega; rintro e w' ⟨rfl, rfl⟩)) | go_in)
    go_ret
    exact ⟨rfl, (Below.refl _ _).alloc (Nat.le_refl _) _⟩
  · rw [hf]; clear hf h
    have H3 := Lib.hid h3; clear h3
    have H4 := Lib.hid h4; clear h4
    rcases zero_ways t m r s v with ⟨rfl, rfl, rfl, rfl, rfl⟩ | ⟨z1, zf⟩ | ⟨rfl, z1, zf⟩ | ⟨rfl, rfl, z1, zf⟩ | ⟨rfl, rfl, rfl, z1, zf⟩ | ⟨rfl, rfl, rfl, rfl, z1, zf⟩
    · go_enter Try.func36, Try.ntmps36
      go_wp2_with (first | (go_at_call 80; refine (s_l06Size _ _ _).mono ?_; rintro e w' ⟨rfl, rfl⟩; rw [H3.out]) | (go_at_call 69; refine (s_IsBytes _ _ _ _ _ _ hI).mono ?_; rintro e w' ⟨rfl, rfl⟩; rw [H4.out]) | (go_at_call 79; first | (refine (s_l01In_yes _ _ _ _ ?_ ?_).mono ?_; omega; omega; rintro e w' ⟨rfl, rfl⟩) | (refine (s_l01In_no _ _ _ _ ?_).mono ?_; omega; rintro e w' ⟨rfl, rfl⟩)) | go_in)
      go_ret
      exact ⟨rfl, (Below.refl _ _).alloc (Nat.le_refl _) _⟩
    all_goals
      rw [zf]; clear zf
      go_enter Try.func36, Try.ntmps36
      go_wp2_with (first | (go_at_call 80; refine (s_l06Size _ _ _).mono ?_; rintro e w' ⟨rfl, rfl⟩; rw [H3.out]) | (go_at_call 69; refine (s_IsBytes _ _ _ _ _ _ hI).mono ?_; rintro e w' ⟨rfl, rfl⟩; rw [H4.out]) | (go_at_call 79; first | (refine (s_l01In_yes _ _ _ _ ?_ ?_).mono ?_; omega; omega; rintro e w' ⟨rfl, rfl⟩) | (refine (s_l01In_no _ _ _ _ ?_).mono ?_; omega; rintro e w' ⟨rfl, rfl⟩)) | go_in)
      go_ret
      exact ⟨rfl, (Below.refl _ _).alloc (Nat.le_refl _) _⟩
  · rw [hf]; clear hf h
    have H3 := Lib.hid h3; clear h3
    have H4 := Lib.hid h4; clear h4
    rcases cold_ways q t m r s v with ⟨hs, hf⟩ | ⟨hs, z1, hf⟩ | ⟨hs, rfl, rfl, hf⟩ | ⟨hs, rfl, z1, z2, z3, hf⟩ | ⟨hs, rfl, z1, z2, z3, z4, hf⟩ | ⟨hs, rfl, z1, z2, z3, rfl, hf⟩
    all_goals
      rw [hf]; clear hf
      have HS := Lib.hid hs; clear hs
      (try clear z3)
      first | (have z8 := one_len v _ rfl; (try rw [z2] at z8); have HO := Lib.hid z8; clear z8) | (have z8 := one_len 0 _ rfl; rw [oneB_zero] at z8; have HO := Lib.hid z8; clear z8)
      go_enter Try.func36, Try.ntmps36
      go_wp2_with (first | (go_at_call 80; refine (s_l06Size _ _ _).mono ?_; rintro e w' ⟨rfl, rfl⟩; rw [H3.out]) | (go_at_call 69; refine (s_IsBytes _ _ _ _ _ _ hI).mono ?_; rintro e w' ⟨rfl, rfl⟩; rw [H4.out]) | (go_at_call 81; refine (s_MembersOf _ _).mono ?_; rintro e w1 ⟨vm, rfl, ho, hb⟩; obtain ⟨Am, cm, rfl, im⟩ := ho.ints (Nat.le_trans (membersL_len _) (by omega)); have hR := (hb.block w.heap.size (by simp)).trans (heap_alloc_new w _); have BB := ((Below.refl _ _).alloc (Nat.le_refl _) _).trans (hb.mono (by simp)); obtain ⟨c0, c1, c2, c3, c4, c5, c6, c7⟩ := fr_cells hR; have y1 := Below.lt_of' hR; have z8 := HO.out; clear hI hb ho) | (go_at_call 82; refine (s_IsState _ _ _ _ _ _).mono ?_; rintro e w2 ⟨rfl, hb2⟩; rw [HS.out]; have hR2 := (hb2.block w.heap.size y1).trans hR; have BB2 := BB.trans (hb2.mono (Nat.le_of_lt y1)); clear c0 c1 c2 c3 c4 c5 c6 c7; obtain ⟨c0, c1, c2, c3, c4, c5, c6, c7⟩ := fr_cells hR2; clear hb2 hR2) | (go_at_call 79; first | (refine (s_l01In_yes _ _ _ _ ?_ ?_).mono ?_; omega; omega; rintro e w' ⟨rfl, rfl⟩) | (refine (s_l01In_no _ _ _ _ ?_).mono ?_; omega; rintro e w' ⟨rfl, rfl⟩)) | go_in)
      go_ret
      exact ⟨rfl, BB2⟩
  · rw [hf]; clear hf h
    have H3 := Lib.hid h3; clear h3
    have H4 := Lib.hid h4; clear h4
    have HS : Hid (stOk t m r s v = stOk t m r s v) := Lib.hid rfl
    generalize hX : stOk t m r s v = X at HS ⊢
    clear HS
    have HS := Lib.hid hX; clear hX
    go_enter Try.func36, Try.ntmps36
    go_wp2_with (first | (go_at_call 80; refine (s_l06Size _ _ _).mono ?_; rintro e w' ⟨rfl, rfl⟩; rw [H3.out]) | (go_at_call 69; refine (s_IsBytes _ _ _ _ _ _ hI).mono ?_; rintro e w' ⟨rfl, rfl⟩; rw [H4.out]) | (go_at_call 82; refine (s_IsState _ _ _ _ _ _).mono ?_; rintro e w1 ⟨rfl, hb⟩; rw [HS.out]; have hR := (hb.block w.heap.size (by simp)).trans (heap_alloc_new w _); have BB := ((Below.refl _ _).alloc (Nat.le_refl _) _).trans (hb.mono (by simp)); obtain ⟨c0, c1, c2, c3, c4, c5, c6, c7⟩ := fr_cells hR; clear hI hb hR) | (go_at_call 79; first | (refine (s_l01In_yes _ _ _ _ ?_ ?_).mono ?_; omega; omega; rintro e w' ⟨rfl, rfl⟩) | (refine (s_l01In_no _ _ _ _ ?_).mono ?_; omega; rintro e w' ⟨rfl, rfl⟩)) | go_in)
    go_ret
    exact ⟨rfl, BB⟩
end Go.Proofs.Ytecelofoffdjlaa

/- The contracts of DamagedBlocks. -/
import Derived.Test.YtjheanonklgbcaaDmg2
namespace Go.Proofs.Ytjheanonklgbcaa
open Go.RowKit
set_option linter.unusedSimpArgs false
set_option linter.unusedVariables false
theorem byt_all {xs : List Int} (h : bytesOk xs = true) : ∀ x ∈ xs, 0 ≤ x ∧ x ≤ 255 := fun x hx => by
  obtain ⟨i, hi, rfl⟩ := List.getElem_of_mem hx
  have := bytesOk_at h i hi
  rwa [List.getD_eq_getElem?_getD, List.getElem?_eq_getElem hi] at this
def dbC (xs : List Int) : Int := if bytesOk xs then 0 else 2
def dbL (xs : List Int) : List Int := if bytesOk xs then dmgL xs (cutN 33 xs.length) else []
theorem cutN_le (n : Nat) (h : n ≤ 1024) : cutN 33 n ≤ 100 := by unfold cutN; split <;> omega
theorem dbL_len (xs : List Int) : (dbL xs).length ≤ 16777216 := by
  unfold dbL
  split
  · rename_i h
    have := dmgL_len xs (cutN 33 xs.length)
    have := cutN_le xs.length (bytesOk_len h)
    omega
  · simp
theorem i_DamagedBlocks (A : Option Addr) (n c : Nat) (xs : List Int) (B : Nat) (w : World) (h : IntsAt w B A n c xs) (hB : B ≤ w.heap.size) :
    Calls Try.prog 23 #[.slice A n c] w fun e w' => ∃ u, e = .returned (.tuple #[u, .int .i64 (dbC xs)]) ∧ IOwn w' w.heap.size u (dbL xs) ∧ Below w.heap.size w w' := by
  have C1 := i_IsBytes A n c xs B w h
  unfold dbC dbL
  cases hb : bytesOk xs
  · rw [hb] at C1
    clear h
    go_enter Try.func23, Try.ntmps23
    go_wp2_with (first | (go_at_call 63; refine C1.mono ?_; rintro e w1 ⟨rfl, rfl⟩))
    go_ret2
    exact ⟨_, rfl, IOwn.nil _ _, Below.refl _ _⟩
  · rw [hb] at C1
    have hl := bytesOk_len hb
    have hn := h.len
    have C2 := i_damaged A n c xs B w h hB (byt_all hb) (by omega)
    have e : dmgL xs (cutN 33 n) = dmgL xs (cutN 33 xs.length) := by rw [hn]
    rw [e] at C2
    have C2' := Lib.hid C2
    clear C2 h hn e
    go_enter Try.func23, Try.ntmps23
    go_wp2_with (first | (go_at_call 63; refine C1.mono ?_; rintro e w1 ⟨rfl, rfl⟩) | (go_at_call 71; refine C2'.out.mono ?_; rintro e w2 ⟨u, rfl, o, b⟩))
    go_ret2
    exact ⟨_, rfl, o, b⟩
theorem s_DamagedBlocks (A : Option Addr) (n c : Nat) (xs : List Int) (B : Nat) (w : World) (h : IntsAt w B A n c xs) (hB : B ≤ w.heap.size) :
    Calls Try.prog 22 #[.slice A n c] w fun e w' => ∃ u, e = .returned (.tuple #[u, .int .i64 (dbC xs)]) ∧ IOwn w' w.heap.size u (dbL xs) ∧ Below w.heap.size w w' := by
  have C1 := s_IsBytes A n c xs B w h
  unfold dbC dbL
  cases hb : bytesOk xs
  · rw [hb] at C1
    clear h
    go_enter Try.func22, Try.ntmps22
    go_wp2_with (first | (go_at_call 59; refine C1.mono ?_; rintro e w1 ⟨rfl, rfl⟩))
    go_ret2
    exact ⟨_, rfl, IOwn.nil _ _, Below.refl _ _⟩
  · rw [hb] at C1
    have hl := bytesOk_len hb
    have hn := h.len
    have C2 := s_l09Damaged A n c xs B w h hB (byt_all hb) (by omega)
    have e : dmgL xs (cutN 33 n) = dmgL xs (cutN 33 xs.length) := by rw [hn]
    rw [e] at C2
    have C2' := Lib.hid C2
    clear C2 h hn e
    go_enter Try.func22, Try.ntmps22
    go_wp2_with (first | (go_at_call 59; refine C1.mono ?_; rintro e w1 ⟨rfl, rfl⟩) | (go_at_call 70; refine C2'.out.mono ?_; rintro e w2 ⟨u, rfl, o, b⟩))
    go_ret2
    exact ⟨_, rfl, o, b⟩
end Go.Proofs.Ytjheanonklgbcaa

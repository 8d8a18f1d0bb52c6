/- ReadNodeTable, both texts. -/
import Derived.Test.YtgenfffgenddmaaDoorIRd
namespace Go.Proofs.YtgenfffgenddmaaDoor
open Go.RowKit
set_option linter.unusedSimpArgs false
set_option linter.unusedVariables false
def rnL (xs : List Int) : List Nd := if bytesOk xs = true then rdL xs else []
def rnP (xs : List Int) : Nat := if bytesOk xs = true then rdP xs else 0
def rnC (xs : List Int) : Int := if bytesOk xs = true then (if rdB xs = true then 0 else 6) else 2
theorem rn_bad {xs : List Int} (h : bytesOk xs = false) : rnL xs = [] ∧ rnP xs = 0 ∧ rnC xs = 2 := by simp [rnL, rnP, rnC, h]
theorem rn_no {xs : List Int} (h : bytesOk xs = true) (ho : rdB xs = false) : rnL xs = [] ∧ rnP xs = 0 ∧ rnC xs = 6 := by
  have hr : rdRes xs = none := by
    unfold rdB at ho
    cases e : rdRes xs
    · rfl
    · rw [e] at ho; cases ho
  obtain ⟨e1, e2, -⟩ := rd_no hr
  simp [rnL, rnP, rnC, h, e1, e2, ho]
theorem rn_yes {xs : List Int} (h : bytesOk xs = true) (ho : rdB xs = true) : rnL xs = rdL xs ∧ rnP xs = rdP xs ∧ rnC xs = 0 := by simp [rnL, rnP, rnC, h, ho]
theorem rd_ntOk {xs : List Int} {L : List Nd} {p : Nat} (h : rdRes xs = some (L, p)) : ntOk L = true ∧ eqL (encK L L.length) (xs.take p) = true ∧ rdOut xs = some (L, p) := by
  unfold rdRes rdGo at h
  split at h
  · rename_i q hq
    split at h
    · rename_i hc
      injection h with h
      subst h
      rw [Bool.and_eq_true] at hc
      exact ⟨hc.1, hc.2, hq⟩
    · cases h
  · cases h
theorem rnL_small (xs : List Int) : (rnL xs).length ≤ 32 ∧ ∀ (k : Nat) (d : Nd), (rnL xs)[k]? = some d → d.nm.size ≤ 1048576 := by
  cases hb : bytesOk xs
  · rw [(rn_bad hb).1]; simp
  · cases ho : rdB xs
    · rw [(rn_no hb ho).1]; simp
    · rw [(rn_yes hb ho).1]
      unfold rdB at ho
      obtain ⟨⟨L, p⟩, hr⟩ := Option.isSome_iff_exists.1 ho
      rw [(rd_yes hr).1]
      have hn := (rd_ntOk hr).1
      exact ⟨by have := (ntOk_split hn).1; omega, fun k d hd => by have := ndOk_nm (ntOk_nd hn hd); omega⟩
def RnPost (L : List Nd) (P : Nat) (C : Int) (w : World) (e : Ending) (w' : World) : Prop := ∃ v, e = .returned (.tuple #[v, .int .i64 P, .int .i64 C]) ∧ NOwn w' w.heap.size v L ∧ Below w.heap.size w w'
theorem rnPost_nil {L : List Nd} {P : Nat} {C C' : Int} {w w' : World} (h : L = [] ∧ P = 0 ∧ C = C') (hb : Below w.heap.size w w') : RnPost L P C w (.returned (.tuple #[.slice none 0 0, .int .i64 0, .int .i64 C'])) w' := by
  obtain ⟨rfl, rfl, rfl⟩ := h
  exact ⟨_, rfl, nown_nil _ _, hb⟩
theorem s_ReadNodeTable (A : Option Addr) (n c : Nat) (xs : List Int) (B : Nat) (w : World) (h : IntsAt w B A n c xs) (hB : B ≤ w.heap.size) :
    Calls Tryd.prog 12 #[.slice A n c] w (RnPost (rnL xs) (rnP xs) (rnC xs) w) := by
  have hT := Lib.hid (s_IsBytes A n c xs B w h)
  cases hb : bytesOk xs
  · have HE := Lib.hid (rn_bad hb)
    rw [hb] at hT
    clear h hb
    go_enter Tryd.func12, Tryd.ntmps12
    go_wp2_with (go_at_call 46; refine hT.out.mono ?_; rintro e w' ⟨rfl, rfl⟩)
    go_ret3
    exact rnPost_nil HE.out (Below.refl _ _)
  · have HR := Lib.hid (s_l10Read A n c xs B w h hB hb)
    unfold RdPost at HR
    rw [hb] at hT
    cases ho : rdB xs
    · have HE := Lib.hid (rn_no hb ho)
      rw [ho] at HR
      clear h hb ho
      go_enter Tryd.func12, Tryd.ntmps12
      go_wp2_with (go_at_call 46; refine hT.out.mono ?_; rintro e w' ⟨rfl, rfl⟩)
      refine HR.out.mono ?_
      rintro e w1 ⟨v, rfl, O, b⟩
      go_wp2
      go_ret3
      exact rnPost_nil HE.out b
    · have HE := Lib.hid (rn_yes hb ho)
      rw [ho] at HR
      clear h hb ho
      rw [HE.out.1, HE.out.2.1, HE.out.2.2]
      go_enter Tryd.func12, Tryd.ntmps12
      go_wp2_with (go_at_call 46; refine hT.out.mono ?_; rintro e w' ⟨rfl, rfl⟩)
      refine HR.out.mono ?_
      rintro e w1 ⟨v, rfl, O, b⟩
      go_wp2
      go_ret3
      exact ⟨_, rfl, O, b⟩
theorem i_ReadNodeTable (A : Option Addr) (n c : Nat) (xs : List Int) (B : Nat) (w : World) (h : IntsAt w B A n c xs) (hB : B ≤ w.heap.size) :
    Calls Tryd.prog 14 #[.slice A n c] w (RnPost (rnL xs) (rnP xs) (rnC xs) w) := by
  have hT := Lib.hid (i_IsBytes A n c xs B w h)
  cases hb : bytesOk xs
  · have HE := Lib.hid (rn_bad hb)
    rw [hb] at hT
    clear h hb
    go_enter Tryd.func14, Tryd.ntmps14
    go_wp2_with (go_at_call 48; refine hT.out.mono ?_; rintro e w' ⟨rfl, rfl⟩)
    go_ret3
    exact rnPost_nil HE.out (Below.refl _ _)
  · have HR := Lib.hid (i_readNodes A n c xs B w h hB hb)
    unfold RdPost at HR
    rw [hb] at hT
    cases ho : rdB xs
    · have HE := Lib.hid (rn_no hb ho)
      rw [ho] at HR
      clear h hb ho
      go_enter Tryd.func14, Tryd.ntmps14
      go_wp2_with (go_at_call 48; refine hT.out.mono ?_; rintro e w' ⟨rfl, rfl⟩)
      refine HR.out.mono ?_
      rintro e w1 ⟨v, rfl, O, b⟩
      go_wp2
      go_ret3
      exact rnPost_nil HE.out b
    · have HE := Lib.hid (rn_yes hb ho)
      rw [ho] at HR
      clear h hb ho
      rw [HE.out.1, HE.out.2.1, HE.out.2.2]
      go_enter Tryd.func14, Tryd.ntmps14
      go_wp2_with (go_at_call 48; refine hT.out.mono ?_; rintro e w' ⟨rfl, rfl⟩)
      refine HR.out.mono ?_
      rintro e w1 ⟨v, rfl, O, b⟩
      go_wp2
      go_ret3
      exact ⟨_, rfl, O, b⟩
end Go.Proofs.YtgenfffgenddmaaDoor

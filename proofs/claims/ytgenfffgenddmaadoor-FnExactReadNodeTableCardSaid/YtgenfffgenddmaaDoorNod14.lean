/- The mark's text, named; nodes marked and held. -/
import Derived.Test.YtgenfffgenddmaaDoorNod12
namespace Go.Proofs.YtgenfffgenddmaaDoor
open Go.RowKit
set_option linter.unusedSimpArgs false
set_option linter.unusedVariables false
def dig : Nat → Int → ByteArray → ByteArray
  | 0, _, s => s
  | f + 1, x, s => if 0 < x then dig f (x / 10) (⟨#[UInt8.ofNat (48 + x % 10).toNat]⟩ ++ s) else s
def markTx (m : Int) : ByteArray := if m ≤ 0 then ⟨#[109, 48]⟩ else ⟨#[109]⟩ ++ dig 12 m ⟨#[]⟩
theorem dig_step {t : Nat} {x : Int} {s : ByteArray} (hx : 0 < x) (ht : 0 < t) : dig t x s = dig (t - 1) (x / 10) (⟨#[UInt8.ofNat (48 + x % 10).toNat]⟩ ++ s) := by
  obtain ⟨u, rfl⟩ : ∃ u, t = u + 1 := ⟨t - 1, by omega⟩
  simp [dig, hx]
theorem dig_end {t : Nat} {x : Int} {s : ByteArray} (hx : ¬ 0 < x) : dig t x s = s := by
  cases t <;> simp [dig, hx]
theorem markTx_no {m : Int} (h : m ≤ 0) : markTx m = ⟨#[109, 48]⟩ := by unfold markTx; rw [if_pos h]
theorem markTx_of {m : Int} {s : ByteArray} (h : ¬ m ≤ 0) (hs : dig 12 m ⟨#[]⟩ = s) : markTx m = ⟨#[109]⟩ ++ s := by unfold markTx; rw [if_neg h, hs]
def TxPost (m : Int) (w : World) (e : Ending) (w' : World) : Prop := e = .returned (.string (markTx m)) ∧ Below w.heap.size w w'
set_option maxRecDepth 100000 in
theorem h_markTextN (m : Int) (w : World) (h0 : 0 ≤ m) (h1 : m < 10 ^ 12) :
    Calls Tryd.prog 50 #[.int .i64 m] w (TxPost m w) := by
  by_cases hm : m ≤ 0
  · have HX := Lib.hid (markTx_no hm)
    go_enter Tryd.func50, Tryd.ntmps50
    go_wp2
    go_ret
    exact ⟨by rw [HX.out]; rfl, Below.refl _ _⟩
  · have hm' : decide (m ≤ 0) = false := by simpa using hm
    have HX := Lib.hid (fun s hs => markTx_of (m := m) (s := s) hm hs)
    go_enter Tryd.func50, Tryd.ntmps50
    go_wp2
    go_loopw [0, 3] (fun a v wr => ∃ (x : Int) (s : ByteArray) (t : Nat), a = .int .i64 x ∧ v = .string s ∧ 0 ≤ x ∧ x ≤ m ∧ Hid (x < 10 ^ t) ∧ s.size + t ≤ 12 ∧ Hid (dig 12 m ⟨#[]⟩ = dig t x s) ∧ Below w.heap.size w wr) (fun a _ _ => (intOf a).toNat)
    case atStart => exact ⟨m, ⟨#[]⟩, 12, rfl, rfl, h0, by omega, Lib.hid (by omega), Nat.le_refl 12, Lib.hid rfl, Below.refl _ _⟩
    case round =>
      obtain ⟨x, s, t, rfl, rfl, x0, x1, H, hs, HD, hb⟩ := hrel
      have zb := hb.size
      by_cases hx : 0 < x
      · have ht : 0 < t := by
          rcases Nat.eq_zero_or_pos t with e | e
          · subst e; have := H.out; simp at this; omega
          · exact e
        have HD2 := Lib.hid (HD.out.trans (dig_step hx ht))
        have hd : x.tdiv 10 = x / 10 := Int.tdiv_eq_ediv_of_nonneg x0
        have he : x.tmod 10 = x % 10 := Int.tmod_eq_emod_of_nonneg x0
        have hq : x / 10 < 10 ^ (t - 1) := by
          have := H.out
          obtain ⟨u, rfl⟩ : ∃ u, t = u + 1 := ⟨t - 1, by omega⟩
          rw [Int.pow_succ] at this
          simp only [Nat.add_sub_cancel]
          omega
        have HQ := Lib.hid hq
        clear hq
        have HC := conv1 wr (48 + x % 10) (by omega) (by omega)
        have hsz : ¬ 9223372036854775807 < 1 + s.size := by omega
        go_wp2
        refine ⟨⟨x / 10, _, t - 1, rfl, rfl, by omega, by omega, HQ, ?_, HD2, hb.alloc zb _⟩, by simp [intOf]; omega⟩
        rw [ByteArray.size_append]
        show 1 + s.size + (t - 1) ≤ 12
        omega
      · have HT := Lib.hid (HX.out s (HD.out.trans (dig_end hx)))
        have hsz : ¬ 9223372036854775807 < 1 + s.size := by omega
        go_wp2
        go_ret
        exact ⟨by rw [HT.out]; rfl, hb⟩
end Go.Proofs.YtgenfffgenddmaaDoor

/- Marks on nodes. -/
import Derived.Test.YtgenfffgenddmaaDoorNod9
import Derived.Test.YtgenfffgenddmaaDoorHelp
import Derived.Laws.IdiomStrings
namespace Go.Proofs.YtgenfffgenddmaaDoor
open Go.RowKit
set_option linter.unusedSimpArgs false
set_option linter.unusedVariables false
def StrPost (w : World) (e : Ending) (w' : World) : Prop := ∃ s : ByteArray, e = .returned (.string s) ∧ Below w.heap.size w w'
theorem conv1 (w : World) (b : Int) (h0 : 0 ≤ b) (h1 : b ≤ 255) : (convert 53 9 (.slice (some ⟨w.heap.size, 0, none⟩) 1 1)).run Tryd.prog (w.alloc (.cells #[.int .u8 b] 5)) = .ok (.string ⟨#[UInt8.ofNat b.toNat]⟩) (w.alloc (.cells #[.int .u8 b] 5)) := by
  have := run_convert_bytes_back (P := Tryd.prog) (w.alloc (.cells #[.int .u8 b] 5)) 53 9 5 ⟨w.heap.size, 0, none⟩ 1 [UInt8.ofNat b.toNat] Tryd.underlying53 Tryd.underlying5 Tryd.underlying9 (fun j hj => by
    have : j = 0 := by simpa using hj
    subst this
    have e : (b.toNat % 256 : Nat) = b.toNat := by omega
    rw [show ((⟨w.heap.size, 0, none⟩ : Addr).add 0) = ⟨w.heap.size, 0, none⟩ from rfl, World.cell?_alloc_new]
    simp
    omega)
  exact this
set_option maxRecDepth 100000 in
theorem h_markText (m : Int) (w : World) (h0 : 0 ≤ m) (h1 : m < 10 ^ 12) :
    Calls Tryd.prog 50 #[.int .i64 m] w (StrPost w) := by
  by_cases hm : m ≤ 0
  · go_enter Tryd.func50, Tryd.ntmps50
    go_wp2
    go_ret
    exact ⟨_, rfl, Below.refl _ _⟩
  · have hm' : decide (m ≤ 0) = false := by simpa using hm
    go_enter Tryd.func50, Tryd.ntmps50
    go_wp2
    go_loopw [0, 3] (fun a v wr => ∃ (x : Int) (s : ByteArray) (t : Nat), a = .int .i64 x ∧ v = .string s ∧ 0 ≤ x ∧ x ≤ m ∧ Hid (x < 10 ^ t) ∧ s.size + t ≤ 12 ∧ Below w.heap.size w wr) (fun a _ _ => (intOf a).toNat)
    case atStart => exact ⟨m, ⟨#[]⟩, 12, rfl, rfl, h0, by omega, Lib.hid (by omega), Nat.le_refl 12, Below.refl _ _⟩
    case round =>
      obtain ⟨x, s, t, rfl, rfl, x0, x1, H, hs, hb⟩ := hrel
      have zb := hb.size
      by_cases hx : 0 < x
      · have ht : 0 < t := by
          rcases Nat.eq_zero_or_pos t with e | e
          · subst e; have := H.out; simp at this; omega
          · exact e
        have hd : x.tdiv 10 = x / 10 := Int.tdiv_eq_ediv_of_nonneg x0
        have he : x.tmod 10 = x % 10 := Int.tmod_eq_emod_of_nonneg x0
        have hq : x / 10 < 10 ^ (t - 1) := by
          have := H.out
          obtain ⟨u, rfl⟩ : ∃ u, t = u + 1 := ⟨t - 1, by omega⟩
          rw [Int.pow_succ] at this
          simp only [Nat.add_sub_cancel]
          omega
        have HQ := Lib.hid hq
        clear hq
        have HC := conv1 wr (48 + x % 10) (by omega) (by omega)
        have hsz : ¬ 9223372036854775807 < 1 + s.size := by omega
        go_wp2
        refine ⟨⟨x / 10, _, t - 1, rfl, rfl, by omega, by omega, HQ, ?_, hb.alloc zb _⟩, by simp [intOf]; omega⟩
        rw [ByteArray.size_append]
        show 1 + s.size + (t - 1) ≤ 12
        omega
      · go_wp2
        go_ret
        exact ⟨_, rfl, hb⟩
set_option maxHeartbeats 4000000 in
set_option maxRecDepth 100000 in
theorem h_markNodeInfoS (v : Value) (L : List Nd) (base : Nat) (m : Int) (w : World) (hown : NOwn w base v L) (hm0 : 0 ≤ m) (hm1 : m ≤ 1) (hL : L.length ≤ 1048576) :
    Calls Tryd.prog 18 #[v, .int .i64 m] w fun e w' => ∃ x : Int, e = .returned (.int .i64 x) ∧ 0 ≤ x ∧ w.grownBy w' v.ownBlock := by
  obtain ⟨A, c, rfl, hnc, hcm, hA⟩ := hown.form
  obtain ⟨n, hn⟩ : ∃ n, n = L.length := ⟨_, rfl⟩
  have hO : Hid (∃ cs, w.ownsRow base 36 4 (.slice A n c) n cs) := Lib.hid ⟨nodeVals L, by rw [hn]; exact hown⟩
  rw [← hn] at hL hnc ⊢
  have hA' : 0 < n → ∃ g, A = some ⟨g, 0, none⟩ ∧ g < w.heap.size := fun h0 => by
    rcases hA with ⟨_, rfl, _⟩ | ⟨g, e, _, hlt⟩
    · simp at hn; omega
    · exact ⟨g, e, hlt⟩
  clear hA hown hn
  go_enter Tryd.func18, Tryd.ntmps18
  go_wp2
  go_loopw [1, 5] (fun q i wr => ∃ k : Nat, k ≤ n ∧ i = .int .i64 k ∧ q = .int .i64 (m + 4 * k) ∧ Hid (∃ cs, wr.ownsRow base 36 4 (.slice A n c) n cs) ∧ w.grownBy wr (Value.slice A n c).ownBlock) (fun _ i _ => n - (intOf i).toNat)
  case atStart => exact ⟨0, Nat.zero_le _, rfl, by simp, hO, World.grownBy.refl w _⟩
  case round =>
    clear hO
    obtain ⟨k, hk, rfl, rfl, hD, hg⟩ := hrel
    by_cases hlt : k < n
    · obtain ⟨g, rfl, hgl⟩ := hA' (by omega)
      have hg' : w.grownBy wr (some g) := hg
      have zg := hg.size
      obtain ⟨cs, hown⟩ := hD.out
      have hcl : cs.length = n * 4 := hown.1
      have f0 := hown.frozenAt (k * 4)
      have e0 := hown.cellAt (k * 4) (by omega)
      rw [List.getElem?_eq_getElem (by omega)] at e0
      have h1 := Lib.hid (fun u => (hown.stored (k * 4) u).1)
      have G1 := Lib.hid (fun u => grown_set hg' (p := ⟨g, k * 4, none⟩) (.inl rfl) u)
      clear hown hg hD hA' hg'
      generalize cs[k * 4]'_ = x0 at e0
      have hMT := Lib.hid (fun W => h_markText (m + 4 * k + 1) W (by omega) (by omega))
      have k0 : (0 : Int) ≤ (k : Int) := by omega
      have k1 : (k : Int) < (n : Int) := by omega
      have p1 : wrap64 (m + 4 * k + 1) = m + 4 * k + 1 := IntWalk.wrap64_in _ ⟨by omega, by omega⟩
      have p2 : wrap64 (m + 4 * k + 1 + 1) = m + 4 * k + 1 + 1 := IntWalk.wrap64_in _ ⟨by omega, by omega⟩
      have p3 : wrap64 (m + 4 * k + 1 + 1 + 1) = m + 4 * k + 1 + 1 + 1 := IntWalk.wrap64_in _ ⟨by omega, by omega⟩
      have p4 : wrap64 (m + 4 * k + 1 + 1 + 1 + 1) = m + 4 * k + 1 + 1 + 1 + 1 := IntWalk.wrap64_in _ ⟨by omega, by omega⟩
      go_wp2_with fail
      have H1 := Lib.hid (h1.out (.int .i64 (m + 4 * k)))
      have GG1 := G1.out (.int .i64 (m + 4 * k))
      clear h1 G1 f0 e0
      have zz : (wr.setCell ⟨g, k * 4, none⟩ (.int .i64 (m + 4 * k))).heap.size = wr.heap.size := by simp [World.setCell]
      generalize wr.setCell ⟨g, k * 4, none⟩ (.int .i64 (m + 4 * k)) = W1 at *
      refine (hMT.out W1).mono ?_
      rintro e w2 ⟨s, rfl, b2⟩
      have z2 := b2.size
      have hown := H1.out.kept (grown_of_below b2 none) (by simp [Value.ownBlock])
      have hg2 : w.grownBy w2 (some g) := grown_trans' GG1 (grown_of_below b2 (some g)) (.inl rfl)
      have f1 := hown.frozenAt (k * 4 + 1)
      have f2 := hown.frozenAt (k * 4 + 2)
      have f3 := hown.frozenAt (k * 4 + 3)
      have hcl2 := hown.1
      generalize cs.set (k * 4) (.int .i64 (m + 4 * k)) = cs2 at *
      have hcl3 : cs2.length = n * 4 := hcl2
      have e1 := hown.cellAt (k * 4 + 1) (by omega)
      have e2 := hown.cellAt (k * 4 + 2) (by omega)
      have e3 := hown.cellAt (k * 4 + 3) (by omega)
      rw [List.getElem?_eq_getElem (by omega)] at e1 e2 e3
      have HF := Lib.hid (fun u1 u2 u3 => And.intro (Exists.intro _ ((((hown.stored (k * 4 + 1) u1).1).stored (k * 4 + 2) u2).1.stored (k * 4 + 3) u3).1)
        (grown_set (grown_set (grown_set hg2 (p := ⟨g, k * 4 + 1, none⟩) (.inl rfl) u1) (p := ⟨g, k * 4 + 2, none⟩) (.inl rfl) u2) (p := ⟨g, k * 4 + 3, none⟩) (.inl rfl) u3))
      clear hown hg2 GG1 H1 b2 hMT
      generalize cs2[k * 4 + 1]'_ = x1 at e1
      generalize cs2[k * 4 + 2]'_ = x2 at e2
      generalize cs2[k * 4 + 3]'_ = x3 at e3
      go_wp2
      go_roundw
      case rel => exact ⟨k + 1, by omega, by go_num, by congr 1; omega, Lib.hid (HF.out _ _ _).1, (HF.out _ _ _).2⟩
      case measure => simp [intOf]; omega
    · go_wp2
      go_ret
      exact ⟨_, rfl, by omega, hg⟩
end Go.Proofs.YtgenfffgenddmaaDoor

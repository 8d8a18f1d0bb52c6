/- Nodes marked, the marks named. -/
import Derived.Test.YtgenfffgenddmaaDoorNod14
namespace Go.Proofs.YtgenfffgenddmaaDoor
open Go.RowKit
set_option linter.unusedSimpArgs false
set_option linter.unusedVariables false
def mkNd (m : Int) (k : Nat) : Nd := ⟨m + 4 * k, markTx (m + 4 * k + 1), m + 4 * k + 1 + 1, (m + 4 * k + 1 + 1 + 1) % 3 == 0⟩
def mkL (m : Int) (n : Nat) : List Nd := (List.range n).map (mkNd m)
theorem mkL_len (m : Int) (n : Nat) : (mkL m n).length = n := by simp [mkL]
theorem mkL_get {m : Int} {n k : Nat} (h : k < n) : (mkL m n)[k]? = some (mkNd m k) := by simp [mkL, h]
theorem Done.all' {L : List Nd} {k : Nat} {cs : List Value} (h : Done L k cs) (hk : L.length = k) (hl : cs.length = k * 4) : cs = nodeVals L := by
  subst hk; exact h.all hl
set_option maxHeartbeats 4000000 in
set_option maxRecDepth 100000 in
theorem h_markNodesN (v : Value) (L : List Nd) (base : Nat) (m : Int) (w : World) (hown : NOwn w base v L) (hm0 : 0 ≤ m) (hm1 : m ≤ 1) (hL : L.length ≤ 1048576) :
    Calls Tryd.prog 18 #[v, .int .i64 m] w fun e w' => e = .returned (.int .i64 (m + 4 * L.length)) ∧ NOwn w' base v (mkL m L.length) ∧ w.grownBy w' v.ownBlock := by
  obtain ⟨A, c, rfl, hnc, hcm, hA⟩ := hown.form
  obtain ⟨n, hn⟩ : ∃ n, n = L.length := ⟨_, rfl⟩
  have hO : Hid (∃ cs, w.ownsRow base 36 4 (.slice A n c) n cs ∧ Done (mkL m n) 0 cs) := Lib.hid ⟨nodeVals L, by rw [hn]; exact hown, fun j i d hj => by omega⟩
  rw [← hn] at hL hnc ⊢
  have hA' : 0 < n → ∃ g, A = some ⟨g, 0, none⟩ ∧ g < w.heap.size := fun h0 => by
    rcases hA with ⟨_, rfl, _⟩ | ⟨g, e, _, hlt⟩
    · simp at hn; omega
    · exact ⟨g, e, hlt⟩
  clear hA hown hn
  go_enter Tryd.func18, Tryd.ntmps18
  go_wp2
  go_loopw [1, 5] (fun q i wr => ∃ k : Nat, k ≤ n ∧ i = .int .i64 k ∧ q = .int .i64 (m + 4 * k) ∧ Hid (∃ cs, wr.ownsRow base 36 4 (.slice A n c) n cs ∧ Done (mkL m n) k cs) ∧ w.grownBy wr (Value.slice A n c).ownBlock) (fun _ i _ => n - (intOf i).toNat)
  case atStart => exact ⟨0, Nat.zero_le _, rfl, by simp, hO, World.grownBy.refl w _⟩
  case round =>
    clear hO
    obtain ⟨k, hk, rfl, rfl, hD, hg⟩ := hrel
    by_cases hlt : k < n
    · obtain ⟨g, rfl, hgl⟩ := hA' (by omega)
      have hg' : w.grownBy wr (some g) := hg
      have zg := hg.size
      obtain ⟨cs, hown, hdn⟩ := hD.out
      have hcl : cs.length = n * 4 := hown.1
      have HDN := Lib.hid (hdn.next (mkL_get (m := m) hlt) (by omega))
      simp only [mkNd] at HDN
      clear hdn
      have p5 : (m + 4 * k + 1 + 1 + 1).tmod 3 = (m + 4 * k + 1 + 1 + 1) % 3 := Int.tmod_eq_emod_of_nonneg (by omega)
      have f0 := hown.frozenAt (k * 4)
      have e0 := hown.cellAt (k * 4) (by omega)
      rw [List.getElem?_eq_getElem (by omega)] at e0
      have h1 := Lib.hid (fun u => (hown.stored (k * 4) u).1)
      have G1 := Lib.hid (fun u => grown_set hg' (p := ⟨g, k * 4, none⟩) (.inl rfl) u)
      clear hown hg hD hA' hg'
      generalize cs[k * 4]'_ = x0 at e0
      have hMT := Lib.hid (fun W => h_markTextN (m + 4 * k + 1) W (by omega) (by omega))
      have k0 : (0 : Int) ≤ (k : Int) := by omega
      have k1 : (k : Int) < (n : Int) := by omega
      have p1 : wrap64 (m + 4 * k + 1) = m + 4 * k + 1 := IntWalk.wrap64_in _ ⟨by omega, by omega⟩
      have p2 : wrap64 (m + 4 * k + 1 + 1) = m + 4 * k + 1 + 1 := IntWalk.wrap64_in _ ⟨by omega, by omega⟩
      have p3 : wrap64 (m + 4 * k + 1 + 1 + 1) = m + 4 * k + 1 + 1 + 1 := IntWalk.wrap64_in _ ⟨by omega, by omega⟩
      have p4 : wrap64 (m + 4 * k + 1 + 1 + 1 + 1) = m + 4 * k + 1 + 1 + 1 + 1 := IntWalk.wrap64_in _ ⟨by omega, by omega⟩
      go_wp2_with fail
      have H1 := Lib.hid (h1.out (.int .i64 (m + 4 * k)))
      have GG1 := G1.out (.int .i64 (m + 4 * k))
      clear h1 G1 f0 e0
      have zz : (wr.setCell ⟨g, k * 4, none⟩ (.int .i64 (m + 4 * k))).heap.size = wr.heap.size := by simp [World.setCell]
      generalize wr.setCell ⟨g, k * 4, none⟩ (.int .i64 (m + 4 * k)) = W1 at *
      refine (hMT.out W1).mono ?_
      rintro e w2 ⟨rfl, b2⟩
      generalize markTx (m + 4 * k + 1) = tx at *
      have z2 := b2.size
      have hown := H1.out.kept (grown_of_below b2 none) (by simp [Value.ownBlock])
      have hg2 : w.grownBy w2 (some g) := grown_trans' GG1 (grown_of_below b2 (some g)) (.inl rfl)
      have f1 := hown.frozenAt (k * 4 + 1)
      have f2 := hown.frozenAt (k * 4 + 2)
      have f3 := hown.frozenAt (k * 4 + 3)
      have hcl2 := hown.1
      generalize cs.set (k * 4) (.int .i64 (m + 4 * k)) = cs2 at *
      have hcl3 : cs2.length = n * 4 := hcl2
      have e1 := hown.cellAt (k * 4 + 1) (by omega)
      have e2 := hown.cellAt (k * 4 + 2) (by omega)
      have e3 := hown.cellAt (k * 4 + 3) (by omega)
      rw [List.getElem?_eq_getElem (by omega)] at e1 e2 e3
      have HF := Lib.hid (fun u1 u2 u3 => And.intro ((((hown.stored (k * 4 + 1) u1).1).stored (k * 4 + 2) u2).1.stored (k * 4 + 3) u3).1
        (grown_set (grown_set (grown_set hg2 (p := ⟨g, k * 4 + 1, none⟩) (.inl rfl) u1) (p := ⟨g, k * 4 + 2, none⟩) (.inl rfl) u2) (p := ⟨g, k * 4 + 3, none⟩) (.inl rfl) u3))
      clear hown hg2 GG1 H1 b2 hMT
      generalize cs2[k * 4 + 1]'_ = x1 at e1
      generalize cs2[k * 4 + 2]'_ = x2 at e2
      generalize cs2[k * 4 + 3]'_ = x3 at e3
      go_wp2
      go_roundw
      case rel => exact ⟨k + 1, by omega, by go_num, by congr 1; omega, Lib.hid ⟨_, (HF.out _ _ _).1, HDN.out⟩, (HF.out _ _ _).2⟩
      case measure => simp [intOf]; omega
    · go_wp2
      go_ret
      obtain ⟨cs, hown, hdn⟩ := hD.out
      obtain rfl : k = n := by omega
      have he := hdn.all' (by rw [mkL_len]) (by rw [hown.1])
      refine ⟨rfl, ?_, hg⟩
      unfold NOwn
      rw [mkL_len, ← he]
      exact hown
end Go.Proofs.YtgenfffgenddmaaDoor

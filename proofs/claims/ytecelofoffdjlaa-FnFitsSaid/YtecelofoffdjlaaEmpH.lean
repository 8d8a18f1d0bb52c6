/- Contracts of markFrame and heldFrame; what a region leaves that calls EmptyFrame. -/
import Derived.Test.YtecelofoffdjlaaEmp2
namespace Go.Proofs.Ytecelofoffdjlaa
open Go.RowKit
set_option linter.unusedSimpArgs false
set_option linter.unusedVariables false
theorem Below.from_ {a X b : World} (hX : Below a.heap.size a X) (hb : Below X.heap.size X b) : Below a.heap.size a b := hX.trans (hb.mono hX.size)
theorem own_ne_frame {w : World} {base g : Nat} {v : Value} {xs : List Int} {c : Array Value} (h : IOwn w base v xs) (hg : w.heap[g]? = some (.cells c 47 (0, 0))) : v.ownBlock ≠ some g := by
  rcases h.2 with ⟨rfl, _⟩ | ⟨k, cap, cur, rfl, _, hk, _⟩
  · simp [Value.ownBlock]
  · intro e
    have e' : k = g := by simpa [Value.ownBlock] using e
    subst e'
    rw [hk] at hg
    injection hg with hg
    injection hg with _ ht
    exact absurd ht (by decide)
theorem h_markFrame (k q t m r s v : Int) (A : Option Addr) (n c : Nat) (xs : List Int) (base : Nat) (x : Int) (w : World) (ho : IOwn w base (.slice A n c) xs) (hm0 : 0 ≤ x) (hm1 : x ≤ 4294967296) (hxl : xs.length ≤ 16777216) :
    Calls Try.prog 34 #[.agg #[.int .i64 k, .int .i64 q, .int .i64 t, .int .i64 m, .int .i64 r, .int .i64 s, .int .i64 v, .slice A n c], .int .i64 x] w fun e w' => e = .returned (.int .i64 (x + xs.length)) ∧ IOwn w' base (.slice A n c) (marksL xs.length x) ∧ w.grownBy w' (Value.slice A n c).ownBlock := by
  go_enter Try.func34, Try.ntmps34
  go_wp2_with fail
  refine (h_markInt64S _ _ _ x _ (ho.alloc _) hm0 hm1 hxl).mono ?_
  rintro e w1 ⟨rfl, ho1, hg1⟩
  go_wp2
  go_ret
  exact ⟨rfl, ho1, grown_trans' (grown_alloc (World.grownBy.refl _ _) _) hg1 (.inl rfl)⟩
theorem h_heldFrame (k q t m r s v : Int) (A : Option Addr) (n c : Nat) (B : Nat) (x : Int) (w : World) (h : IntsAt w B A n c (marksL n x)) (hB : B ≤ w.heap.size) (hm0 : 0 ≤ x) (hm1 : x ≤ 4294967296) :
    Calls Try.prog 35 #[.agg #[.int .i64 k, .int .i64 q, .int .i64 t, .int .i64 m, .int .i64 r, .int .i64 s, .int .i64 v, .slice A n c], .int .i64 x] w fun e w' => e = .returned (.int .i64 (x + n)) ∧ Below w.heap.size w w' := by
  have hn := h.small
  go_enter Try.func35, Try.ntmps35
  go_wp2_with fail
  refine (h_heldInt64S _ _ _ _ x _ (h.alloc hB _) hm0 hm1).mono ?_
  rintro e w1 ⟨rfl, rfl⟩
  go_wp2
  go_ret
  exact ⟨rfl, (Below.refl _ _).alloc (Nat.le_refl _) _⟩
/-- Behind a region that calls EmptyFrame: a new box holds the frame, its data are new; the arguments' boxes are as they were. -/
def EmR (w w0 : World) (base g0 g1 : Nat) (BD BS : Obj) (K T M R S V : Int) (L : List Int) (s5 : Value) (wx : World) : Prop :=
  ∃ g5 A cp, s5 = .pointer (some ⟨g5, 0, none⟩) ∧ base ≤ g5 ∧ wx.heap[g5]? = some (.cells #[.int .i64 K, .int .i64 0, .int .i64 T, .int .i64 M, .int .i64 R, .int .i64 S, .int .i64 V, .slice A L.length cp] 47 (0, 0)) ∧
    IOwn wx base (.slice A L.length cp) L ∧ wx.heap[g0]? = some BD ∧ wx.heap[g1]? = some BS ∧ Below base w0 wx ∧ Below w.heap.size w wx
theorem IOwn.setO {w : World} {base : Nat} {v : Value} {xs : List Int} (h : IOwn w base v xs) {g k : Nat} (hg : v.ownBlock ≠ some g) (u : Value) : IOwn (w.setCell ⟨g, k, none⟩ u) base v xs := ownsRow_setCell_other h hg u
theorem IOwn.eightO {w : World} {base : Nat} {v : Value} {xs : List Int} (h : IOwn w base v xs) {g : Nat} (hg : v.ownBlock ≠ some g) (v0 v1 v2 v3 v4 v5 v6 v7 : Value) :
    IOwn ((((((((w.setCell ⟨g, 0, none⟩ v0).setCell ⟨g, 1, none⟩ v1).setCell ⟨g, 2, none⟩ v2).setCell ⟨g, 3, none⟩ v3).setCell ⟨g, 4, none⟩ v4).setCell ⟨g, 5, none⟩ v5).setCell ⟨g, 6, none⟩ v6).setCell ⟨g, 7, none⟩ v7) base v xs :=
  (((((((h.setO hg _).setO hg _).setO hg _).setO hg _).setO hg _).setO hg _).setO hg _).setO hg _
section
variable {w w0 wc : World} {base g0 g1 : Nat} {BD BS : Obj} {K T M R S V : Int} {L : List Int} {s5 : Value}
theorem EmR.drew (h : EmR w w0 base g0 g1 BD BS K T M R S V L s5 wc) : EmR w w0 base g0 g1 BD BS K T M R S V L s5 wc.drew := by
  obtain ⟨g5, A, cp, h1, h2, h3, h4, h5, h6, h7, h8⟩ := h
  exact ⟨g5, A, cp, h1, h2, h3, h4, h5, h6, h7.drew, h8.drew⟩
theorem EmR.mkP {A : Option Addr} {cc : Nat} (OC : IOwn wc base (.slice A L.length cc) L) (Rc : wc.heap[g0]? = some BD) (Qc : wc.heap[g1]? = some BS) (hb : base ≤ wc.heap.size) (CC : Below base w0 wc) (BB : Below w.heap.size w wc) :
    EmR w w0 base g0 g1 BD BS K T M R S V L (.pointer (some ⟨wc.heap.size, 0, none⟩)) (wc.alloc (.cells #[.int .i64 K, .int .i64 0, .int .i64 T, .int .i64 M, .int .i64 R, .int .i64 S, .int .i64 V, .slice A L.length cc] 47)) :=
  ⟨_, _, _, rfl, hb, heap_alloc_new wc _, OC.alloc _, (Below.heap_alloc wc _ _ (Below.lt_of' Rc)).trans Rc, (Below.heap_alloc wc _ _ (Below.lt_of' Qc)).trans Qc, CC.alloc hb _, BB.alloc BB.size _⟩
theorem EmR.mkQ {A : Option Addr} {cc b : Nat} {u0 u1 u2 u3 u4 u5 u6 u7 : Value} (ZR : wc.heap[b]? = some (.cells #[u0, u1, u2, u3, u4, u5, u6, u7] 47 (0, 0))) (OC : IOwn wc base (.slice A L.length cc) L) (Rc : wc.heap[g0]? = some BD) (Qc : wc.heap[g1]? = some BS) (hb : base ≤ b) (n0 : g0 ≠ b) (n1 : g1 ≠ b) (CC : Below base w0 wc) (BB : Below w.heap.size w wc) (hw : w.heap.size ≤ b) :
    EmR w w0 base g0 g1 BD BS K T M R S V L (.pointer (some ⟨b, 0, none⟩)) ((((((((wc.setCell ⟨b, 0, none⟩ (.int .i64 K)).setCell ⟨b, 1, none⟩ (.int .i64 0)).setCell ⟨b, 2, none⟩ (.int .i64 T)).setCell ⟨b, 3, none⟩ (.int .i64 M)).setCell ⟨b, 4, none⟩ (.int .i64 R)).setCell ⟨b, 5, none⟩ (.int .i64 S)).setCell ⟨b, 6, none⟩ (.int .i64 V)).setCell ⟨b, 7, none⟩ (.slice A L.length cc)) :=
  ⟨_, _, _, rfl, hb, eight_heap ZR, OC.eightO (own_ne_frame OC ZR) _ _ _ _ _ _ _ _, (eight_other n0).trans Rc, (eight_other n1).trans Qc, below_eight CC hb, below_eight BB hw⟩
end
end Go.Proofs.Ytecelofoffdjlaa

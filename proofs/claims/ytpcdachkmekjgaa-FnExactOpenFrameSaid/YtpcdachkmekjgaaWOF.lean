/- The walk of the law on OpenFrame, over the two contracts. -/
import Derived.Test.YtpcdachkmekjgaaFFI
import Derived.Test.YtpcdachkmekjgaaEmpH2
import Derived.Test.YtpcdachkmekjgaaBits4
import Derived.Deep.CutRange
import Derived.Deep.RegionHeld3
import Derived.BigRegion
namespace Go.Proofs.Ytpcdachkmekjgaa
open Go.RowKit
set_option linter.unusedSimpArgs false
set_option linter.unusedVariables false
theorem Below.from_ {a X b : World} (hX : Below a.heap.size a X) (hb : Below X.heap.size X b) : Below a.heap.size a b := hX.trans (hb.mono hX.size)
theorem IOwn.less_from {a X w' : World} {v : Value} {xs : List Int} {k : Nat} (ho : IOwn w' X.heap.size v xs) (hX : Below a.heap.size a X) (h : k ≤ a.heap.size) : IOwn w' k v xs := ho.less (Nat.le_trans h hX.size)
theorem IOwn.intsOf {w : World} {base n c : Nat} {A : Option Addr} {xs : List Int} (h : IOwn w base (.slice A n c) xs) (hs : xs.length ≤ 16777216) : n = xs.length ∧ IntsAt w w.heap.size A xs.length c xs := by
  obtain ⟨A', c', e, I⟩ := h.ints hs
  injection e with e1 e2 e3
  subst e1 e2 e3
  exact ⟨rfl, I⟩
theorem alloc_at {w W : World} {a : Obj} (hW : w.alloc a = W) : W.heap[w.heap.size]? = some a ∧ Below w.heap.size w W := by
  subst hW
  exact ⟨heap_alloc_new w a, (Below.refl _ _).alloc (Nat.le_refl _) _⟩
theorem eight_other {w : World} {g h : Nat} {v0 v1 v2 v3 v4 v5 v6 v7 : Value} (hn : h ≠ g) :
    ((((((((w.setCell ⟨g, 0, none⟩ v0).setCell ⟨g, 1, none⟩ v1).setCell ⟨g, 2, none⟩ v2).setCell ⟨g, 3, none⟩ v3).setCell ⟨g, 4, none⟩ v4).setCell ⟨g, 5, none⟩ v5).setCell ⟨g, 6, none⟩ v6).setCell ⟨g, 7, none⟩ v7).heap[h]? = w.heap[h]? := by
  rw [heap_setCell_other _ _ _ _ hn, heap_setCell_other _ _ _ _ hn, heap_setCell_other _ _ _ _ hn, heap_setCell_other _ _ _ _ hn, heap_setCell_other _ _ _ _ hn, heap_setCell_other _ _ _ _ hn, heap_setCell_other _ _ _ _ hn, heap_setCell_other _ _ _ _ hn]
/-- Behind a region that calls OpenFrame: a new box holds the frame, its data are new; the state's box is as it was. -/
def OfR (w w0 : World) (base g0 : Nat) (BS : Obj) (K Q T M R S V : Int) (L : List Int) (s5 : Value) (wx : World) : Prop :=
  ∃ g5 A cp, s5 = .pointer (some ⟨g5, 0, none⟩) ∧ base ≤ g5 ∧ wx.heap[g5]? = some (.cells #[.int .i64 K, .int .i64 Q, .int .i64 T, .int .i64 M, .int .i64 R, .int .i64 S, .int .i64 V, .slice A L.length cp] 32 (0, 0)) ∧
    IOwn wx base (.slice A L.length cp) L ∧ wx.heap[g0]? = some BS ∧ Below base w0 wx ∧ Below w.heap.size w wx
theorem IOwn.setO {w : World} {base : Nat} {v : Value} {xs : List Int} (h : IOwn w base v xs) {g k : Nat} (hg : v.ownBlock ≠ some g) (u : Value) : IOwn (w.setCell ⟨g, k, none⟩ u) base v xs := ownsRow_setCell_other h hg u
theorem IOwn.eightO {w : World} {base : Nat} {v : Value} {xs : List Int} (h : IOwn w base v xs) {g : Nat} (hg : v.ownBlock ≠ some g) (v0 v1 v2 v3 v4 v5 v6 v7 : Value) :
    IOwn ((((((((w.setCell ⟨g, 0, none⟩ v0).setCell ⟨g, 1, none⟩ v1).setCell ⟨g, 2, none⟩ v2).setCell ⟨g, 3, none⟩ v3).setCell ⟨g, 4, none⟩ v4).setCell ⟨g, 5, none⟩ v5).setCell ⟨g, 6, none⟩ v6).setCell ⟨g, 7, none⟩ v7) base v xs :=
  (((((((h.setO hg _).setO hg _).setO hg _).setO hg _).setO hg _).setO hg _).setO hg _).setO hg _
section
variable {w w0 wc : World} {base g0 : Nat} {BS : Obj} {K Q T M R S V : Int} {L : List Int} {s5 : Value}
theorem OfR.mkP {A : Option Addr} {cc : Nat} (OC : IOwn wc base (.slice A L.length cc) L) (Rc : wc.heap[g0]? = some BS) (hb : base ≤ wc.heap.size) (CC : Below base w0 wc) (BB : Below w.heap.size w wc) :
    OfR w w0 base g0 BS K Q T M R S V L (.pointer (some ⟨wc.heap.size, 0, none⟩)) (wc.alloc (.cells #[.int .i64 K, .int .i64 Q, .int .i64 T, .int .i64 M, .int .i64 R, .int .i64 S, .int .i64 V, .slice A L.length cc] 32)) :=
  ⟨_, _, _, rfl, hb, heap_alloc_new wc _, OC.alloc _, (Below.heap_alloc wc _ _ (Below.lt_of' Rc)).trans Rc, CC.alloc hb _, BB.alloc BB.size _⟩
theorem OfR.mkQ {A : Option Addr} {cc b : Nat} {u0 u1 u2 u3 u4 u5 u6 u7 : Value} (ZR : wc.heap[b]? = some (.cells #[u0, u1, u2, u3, u4, u5, u6, u7] 32 (0, 0))) (OC : IOwn wc base (.slice A L.length cc) L) (Rc : wc.heap[g0]? = some BS) (hb : base ≤ b) (n0 : g0 ≠ b) (CC : Below base w0 wc) (BB : Below w.heap.size w wc) (hw : w.heap.size ≤ b) :
    OfR w w0 base g0 BS K Q T M R S V L (.pointer (some ⟨b, 0, none⟩)) ((((((((wc.setCell ⟨b, 0, none⟩ (.int .i64 K)).setCell ⟨b, 1, none⟩ (.int .i64 Q)).setCell ⟨b, 2, none⟩ (.int .i64 T)).setCell ⟨b, 3, none⟩ (.int .i64 M)).setCell ⟨b, 4, none⟩ (.int .i64 R)).setCell ⟨b, 5, none⟩ (.int .i64 S)).setCell ⟨b, 6, none⟩ (.int .i64 V)).setCell ⟨b, 7, none⟩ (.slice A L.length cc)) :=
  ⟨_, _, _, rfl, hb, eight_heap ZR, OC.eightO (own_ne_frame OC ZR) _ _ _ _ _ _ _ _, (eight_other n0).trans Rc, below_eight CC hb, below_eight BB hw⟩
end
set_option maxHeartbeats 8000000 in
theorem w_OpenFrame_ (A : Option Addr) (n c : Nat) (xs : List Int) (id t m r s v C K Q T M R S V : Int) (L : List Int) (hL : L.length ≤ 1100)
    (hs : ∀ (A : Option Addr) (n c B : Nat) (W : World), IntsAt W B A n c xs → B ≤ W.heap.size → Calls Try.prog 34 #[.slice A n c, .int .i64 id, .agg #[.int .i64 t, .int .i64 m, .int .i64 r, .int .i64 s, .int .i64 v]] W fun e W' => ∃ sl, e = .returned (.tuple #[.agg #[.int .i64 K, .int .i64 Q, .int .i64 T, .int .i64 M, .int .i64 R, .int .i64 S, .int .i64 V, sl], .int .i64 C]) ∧ IOwn W' W.heap.size sl L ∧ Below W.heap.size W W')
    (hi : ∀ (A : Option Addr) (n c B : Nat) (W : World), IntsAt W B A n c xs → B ≤ W.heap.size → Calls Try.prog 35 #[.slice A n c, .int .i64 id, .agg #[.int .i64 t, .int .i64 m, .int .i64 r, .int .i64 s, .int .i64 v]] W fun e W' => ∃ sl, e = .returned (.tuple #[.agg #[.int .i64 K, .int .i64 Q, .int .i64 T, .int .i64 M, .int .i64 R, .int .i64 S, .int .i64 V, sl], .int .i64 C]) ∧ IOwn W' W.heap.size sl L ∧ Below W.heap.size W W')
    (w : World) (w0 : ArgInts w A n c xs) :
    Calls Try.prog 8 #[.slice A n c, .int .i64 id, .agg #[.int .i64 t, .int .i64 m, .int .i64 r, .int .i64 s, .int .i64 v]] w fun e w' => e = .returned (.bool true) ∧ Below w.heap.size w w' := by
  by_cases hbig : 1048576 < n
  · have hm' : n ≤ 9223372036854775807 := Nat.le_trans (Nat.le_trans w0.1 w0.2.1) (by unfold maxLen; omega)
    clear w0 hs hi
    go_enter Try.func8, Try.ntmps8
    go_wp2
    go_ret
    exact ⟨rfl, (Below.refl _ _).alloc (Nat.le_refl _) _⟩
  · have hI := w0.2.2.2.2 (by omega)
    clear w0
    have hxl : xs.length ≤ 16777216 := by rw [hI.len]; exact hI.small
    have hLL : L.length ≤ 16777216 := by omega
    have he := eqL_refl xs
    have HS := Lib.hid hs; have HI := Lib.hid hi; clear hs hi
    have HTI := Lib.hid (fun (W : World) (b : Below w.heap.size w W) => h_toInt64S A n c xs _ W (hI.below b) b.size)
    have HTS := Lib.hid (fun (W : World) => h_toState t m r s v W)
    go_enter Try.func8, Try.ntmps8
    go_upto_region 3 with fail
    generalize hW0 : World.alloc _ _ = W0
    obtain ⟨RW0, BW0⟩ := alloc_at hW0
    clear hW0
    have zW0 := Below.lt_of' RW0
    go_upto_region 3 with fail
    go_cut [7, 8] from 20 to 28 (fun v5 v6 wx => v6 = .int .i64 C ∧ OfR w W0 W0.heap.size w.heap.size (.cells #[.int .i64 t, .int .i64 m, .int .i64 r, .int .i64 s, .int .i64 v] 23 (0, 0)) K Q T M R S V L v5 wx)
    case first =>
      obtain ⟨s0, s1, s2, s3, s4⟩ := cells5 RW0
      have nw0 : W0.heap.size ≠ w.heap.size := (by omega); have mw0 : w.heap.size ≠ W0.heap.size := (by omega)
      go_region_held3 (fun w' => w'.cell? ⟨w.heap.size, 0, none⟩ = some (.int .i64 t) ∧ w'.cell? ⟨w.heap.size, 1, none⟩ = some (.int .i64 m) ∧ w'.cell? ⟨w.heap.size, 2, none⟩ = some (.int .i64 r) ∧ w'.cell? ⟨w.heap.size, 3, none⟩ = some (.int .i64 s) ∧ w'.cell? ⟨w.heap.size, 4, none⟩ = some (.int .i64 v)) (go_keep) (first | (go_at_call 24; refine (HTI.out _ (BW0.trans (Below.mono (B := W0.heap.size) (by (first | exact Below.refl _ _ | exact below_drewN (Below.refl _ _) _ | exact (Below.refl _ _).drew | exact (Below.refl _ _).alloc (Nat.le_refl _) _ | exact ((Below.refl _ _).alloc (Nat.le_refl _) _).drew | exact below_drewN ((Below.refl _ _).alloc (Nat.le_refl _) _) _ | exact ((Below.refl _ _).drew.alloc (Nat.le_refl _) _) | exact ((Below.refl _ _).drew.alloc (Nat.le_refl _) _).drew)) (by omega)))).mono ?_; rintro e wa ⟨va, rfl, oa, hba⟩; obtain ⟨Aa, ca, rfl, Ia⟩ := oa.ints hxl; have hca : Below W0.heap.size W0 wa := Below.from_ (by (first | exact Below.refl _ _ | exact below_drewN (Below.refl _ _) _ | exact (Below.refl _ _).drew | exact (Below.refl _ _).alloc (Nat.le_refl _) _ | exact ((Below.refl _ _).alloc (Nat.le_refl _) _).drew | exact below_drewN ((Below.refl _ _).alloc (Nat.le_refl _) _) _ | exact ((Below.refl _ _).drew.alloc (Nat.le_refl _) _) | exact ((Below.refl _ _).drew.alloc (Nat.le_refl _) _).drew)) hba; (first | (have ZR := (hca.block _ (Below.lt_of' ZR)).trans ZR) | (have ZR := (hba.block W0.heap.size (by simp)).trans (heap_alloc_new W0 (.cells #[.int .i64 0, .int .i64 0, .int .i64 0, .int .i64 0, .int .i64 0, .int .i64 0, .int .i64 0, .slice none 0 0] 32))) | skip); have Ra := (hca.block w.heap.size (by omega)).trans RW0; have za := hca.size; (try clear s0 s1 s2 s3 s4); obtain ⟨s0, s1, s2, s3, s4⟩ := cells5 Ra; have BBa := BW0.trans (hca.mono (by omega)); have CCa := hca; have na0 : wa.heap.size ≠ w.heap.size := (by omega); have ma0 : w.heap.size ≠ wa.heap.size := (by omega); clear hba hca oa) | (go_at_call 28; refine (HTS.out _).mono ?_; rintro e wb ⟨rfl, hbb⟩; have hcb : Below wa.heap.size wa wb := Below.from_ (by (first | exact Below.refl _ _ | exact below_drewN (Below.refl _ _) _ | exact (Below.refl _ _).drew | exact (Below.refl _ _).alloc (Nat.le_refl _) _ | exact ((Below.refl _ _).alloc (Nat.le_refl _) _).drew | exact below_drewN ((Below.refl _ _).alloc (Nat.le_refl _) _) _ | exact ((Below.refl _ _).drew.alloc (Nat.le_refl _) _) | exact ((Below.refl _ _).drew.alloc (Nat.le_refl _) _).drew)) hbb; (first | (have ZR := (hcb.block _ (Below.lt_of' ZR)).trans ZR) | (have ZR := (hbb.block wa.heap.size (by simp)).trans (heap_alloc_new wa (.cells #[.int .i64 0, .int .i64 0, .int .i64 0, .int .i64 0, .int .i64 0, .int .i64 0, .int .i64 0, .slice none 0 0] 32))) | skip); have Rb := (hcb.block w.heap.size (by omega)).trans Ra; have zb := hcb.size; (try clear s0 s1 s2 s3 s4); obtain ⟨s0, s1, s2, s3, s4⟩ := cells5 Rb; have Ib := Ia.below hcb; have BBb := BBa.trans (hcb.mono (by omega)); have CCb := CCa.trans (hcb.mono (by omega)); have nb0 : wb.heap.size ≠ w.heap.size := (by omega); have mb0 : w.heap.size ≠ wb.heap.size := (by omega); clear hbb hcb) | (go_at_call 34; refine (HS.out _ _ _ _ _ (Ib.below' zb (by (first | exact Below.refl _ _ | exact below_drewN (Below.refl _ _) _ | exact (Below.refl _ _).drew | exact (Below.refl _ _).alloc (Nat.le_refl _) _ | exact ((Below.refl _ _).alloc (Nat.le_refl _) _).drew | exact below_drewN ((Below.refl _ _).alloc (Nat.le_refl _) _) _ | exact ((Below.refl _ _).drew.alloc (Nat.le_refl _) _) | exact ((Below.refl _ _).drew.alloc (Nat.le_refl _) _).drew))) (Nat.le_trans zb (Below.size (w := wb) (B := wb.heap.size) (by (first | exact Below.refl _ _ | exact below_drewN (Below.refl _ _) _ | exact (Below.refl _ _).drew | exact (Below.refl _ _).alloc (Nat.le_refl _) _ | exact ((Below.refl _ _).alloc (Nat.le_refl _) _).drew | exact below_drewN ((Below.refl _ _).alloc (Nat.le_refl _) _) _ | exact ((Below.refl _ _).drew.alloc (Nat.le_refl _) _) | exact ((Below.refl _ _).drew.alloc (Nat.le_refl _) _).drew))))).mono ?_; rintro e wc ⟨vs, rfl, ho, hbc⟩; obtain ⟨Ac, cc, rfl, -, -, -⟩ := ho.form; have hcc : Below wb.heap.size wb wc := Below.from_ (by (first | exact Below.refl _ _ | exact below_drewN (Below.refl _ _) _ | exact (Below.refl _ _).drew | exact (Below.refl _ _).alloc (Nat.le_refl _) _ | exact ((Below.refl _ _).alloc (Nat.le_refl _) _).drew | exact below_drewN ((Below.refl _ _).alloc (Nat.le_refl _) _) _ | exact ((Below.refl _ _).drew.alloc (Nat.le_refl _) _) | exact ((Below.refl _ _).drew.alloc (Nat.le_refl _) _).drew)) hbc; have OC : IOwn wc W0.heap.size (.slice Ac L.length cc) L := IOwn.less_from ho (a := wb) (by (first | exact Below.refl _ _ | exact below_drewN (Below.refl _ _) _ | exact (Below.refl _ _).drew | exact (Below.refl _ _).alloc (Nat.le_refl _) _ | exact ((Below.refl _ _).alloc (Nat.le_refl _) _).drew | exact below_drewN ((Below.refl _ _).alloc (Nat.le_refl _) _) _ | exact ((Below.refl _ _).drew.alloc (Nat.le_refl _) _) | exact ((Below.refl _ _).drew.alloc (Nat.le_refl _) _).drew)) (by omega); (first | (have ZR := (hcc.block _ (Below.lt_of' ZR)).trans ZR) | (have ZR := (hbc.block wb.heap.size (by simp)).trans (heap_alloc_new wb (.cells #[.int .i64 0, .int .i64 0, .int .i64 0, .int .i64 0, .int .i64 0, .int .i64 0, .int .i64 0, .slice none 0 0] 32))) | skip); have Rc := (hcc.block w.heap.size (by omega)).trans Rb; have zc := hcc.size; (try clear s0 s1 s2 s3 s4); obtain ⟨s0, s1, s2, s3, s4⟩ := cells5 Rc; have BBc := BBb.trans (hcc.mono (by omega)); have CCc := CCb.trans (hcc.mono (by omega)); (try (have chk := ZR; clear chk; obtain ⟨e0, e1, e2, e3, e4, e5, e6, e7⟩ := fr_cells ZR; obtain ⟨k0, k1, k2, k3, k4, k5, k6, k7⟩ := fr_frozen ZR)); (try clear ho); (try clear hbc); (try clear hcc)))
      all_goals (try go_wp2_with fail)
      all_goals go_meet
      all_goals (case rel => first | (have chk := ZR; clear chk; exact ⟨rfl, OfR.mkQ ZR OC Rc (by omega) (by omega) CCc BBc (by omega)⟩) | exact ⟨rfl, OfR.mkP OC Rc (by omega) CCc BBc⟩)
    case rest =>
      obtain ⟨w2, hW1⟩ : ∃ W, W = wc := ⟨_, rfl⟩
      subst hW1
      obtain ⟨rfl, g0, A0, e0, rfl, hg0, P2, O2, R2, D2, B2⟩ := hcut
      clear RW0 BW0 D2
      obtain ⟨-, h02⟩ := O2.intsOf hLL
      have z2 := Below.lt_of' R2
      have y2 := Below.lt_of' P2
      have n2 : g0 ≠ w.heap.size := by omega
      clear O2
      go_wp2_with fail
      refine (h_toInt64S A n c xs _ _ (hI.below B2) B2.size).mono ?_
      rintro e w3 ⟨vx, rfl, ox, b3⟩
      obtain ⟨Ax, cx, rfl, ix⟩ := ox.ints hxl
      have oxl := ox.lt
      have z3 := b3.size
      have P3 := (b3.block g0 (by omega)).trans P2
      have R3 := (b3.block w.heap.size (by omega)).trans R2
      have h03 := h02.below' (by omega) b3
      have B3 := B2.trans (b3.mono (by omega))
      clear P2 R2 h02 B2
      obtain ⟨s0, s1, s2, s3, s4⟩ := cells5 R3
      go_wp2_with fail
      refine (HTS.out _).mono ?_
      rintro e w3' ⟨rfl, b3'⟩
      have z3' := b3'.size
      have P3 := (b3'.block g0 (by omega)).trans P3
      have R3 := (b3'.block w.heap.size (by omega)).trans R3
      have h03 := h03.below' (by omega) b3'
      have ix := (ix.below b3').more b3'.size
      have ox := ox.below_ b3'
      have oxl' := ox.lt
      have B3 := B3.trans (b3'.mono (by omega))
      clear s0 s1 s2 s3 s4
      go_wp2_with fail
      refine (HI.out _ _ _ _ _ ix (Nat.le_refl _)).mono ?_
      rintro e w4 ⟨sl1, rfl, o1, b4⟩
      obtain ⟨A1, e1, rfl, h1⟩ := o1.ints hLL
      have o1l := o1.lt
      have z4 := b4.size
      have P4 := ((Below.heap_alloc w4 (.cells #[.int .i64 K, .int .i64 Q, .int .i64 T, .int .i64 M, .int .i64 R, .int .i64 S, .int .i64 V, .slice A1 L.length e1] 32) g0 (by omega)).trans (b4.block g0 (by omega))).trans P3
      have R4 := ((Below.heap_alloc w4 (.cells #[.int .i64 K, .int .i64 Q, .int .i64 T, .int .i64 M, .int .i64 R, .int .i64 S, .int .i64 V, .slice A1 L.length e1] 32) w.heap.size (by omega)).trans (b4.block w.heap.size (by omega))).trans R3
      have h04 := (h03.below' (by omega) b4).alloc (by omega) (.cells #[.int .i64 K, .int .i64 Q, .int .i64 T, .int .i64 M, .int .i64 R, .int .i64 S, .int .i64 V, .slice A1 L.length e1] 32)
      have ox4 := (ox.below_ b4).alloc (.cells #[.int .i64 K, .int .i64 Q, .int .i64 T, .int .i64 M, .int .i64 R, .int .i64 S, .int .i64 V, .slice A1 L.length e1] 32)
      have ix4 := (ix.below b4).alloc (by omega) (.cells #[.int .i64 K, .int .i64 Q, .int .i64 T, .int .i64 M, .int .i64 R, .int .i64 S, .int .i64 V, .slice A1 L.length e1] 32)
      have o14 := o1.alloc (.cells #[.int .i64 K, .int .i64 Q, .int .i64 T, .int .i64 M, .int .i64 R, .int .i64 S, .int .i64 V, .slice A1 L.length e1] 32)
      have h14 := h1.alloc (Nat.le_refl _) (.cells #[.int .i64 K, .int .i64 Q, .int .i64 T, .int .i64 M, .int .i64 R, .int .i64 S, .int .i64 V, .slice A1 L.length e1] 32)
      have B4 := (B3.trans (b4.mono (by omega))).alloc (by omega) (.cells #[.int .i64 K, .int .i64 Q, .int .i64 T, .int .i64 M, .int .i64 R, .int .i64 S, .int .i64 V, .slice A1 L.length e1] 32)
      have Q4 := heap_alloc_new w4 (.cells #[.int .i64 K, .int .i64 Q, .int .i64 T, .int .i64 M, .int .i64 R, .int .i64 S, .int .i64 V, .slice A1 L.length e1] 32)
      have y4 : w4.heap.size < (w4.alloc (.cells #[.int .i64 K, .int .i64 Q, .int .i64 T, .int .i64 M, .int .i64 R, .int .i64 S, .int .i64 V, .slice A1 L.length e1] 32)).heap.size := by simp
      clear P3 R3 h03 ox ix o1 h1 B3
      obtain ⟨c0, c1, c2, c3, c4, c5, c6, c7⟩ := fr_cells P4
      obtain ⟨d0, d1, d2, d3, d4, d5, d6, d7⟩ := fr_cells Q4
      have l4 : g0 < w4.heap.size := by omega
      have ne4 : g0 ≠ w4.heap.size := by omega
      go_wp2_with fail
      generalize w4.alloc _ = W4 at *
      generalize w4.heap.size = g1 at *
      clear l4 ne4
      refine (h_eqFrame K Q T M R S V _ _ _ _ _ _ L _ _ _ h14 h04 (by omega) (by omega)).mono ?_
      rintro e w5 ⟨rfl, b5⟩
      have z5 := b5.size
      have P5 := (b5.block g0 (by omega)).trans P4
      have R5 := (b5.block w.heap.size (by omega)).trans R4
      have Q5 := (b5.block g1 (by omega)).trans Q4
      have h05 := h04.below' (by omega) b5
      have h15 := h14.below' (by omega) b5
      have ox5 := ox4.below_ b5
      have ix5 := ix4.below' (by omega) b5
      have o15 := o14.below_ b5
      have B5 := B4.trans (b5.mono (by omega))
      clear P4 R4 Q4 h04 h14 ox4 ix4 o14 B4 c0 c1 c2 c3 c4 c5 c6 c7 d0 d1 d2 d3 d4 d5 d6 d7
      go_wp2_with fail
      refine (h_toInt64S A n c xs _ _ (hI.below B5) (by omega)).mono ?_
      rintro e w6 ⟨vy, rfl, oy, b6⟩
      obtain ⟨Ay, cy, rfl, iy⟩ := oy.ints hxl
      have z6 := b6.size
      have ix6 := ix5.below' (by omega) b6
      go_wp2_with fail
      refine (h_eqInt64S _ _ _ _ _ _ _ _ _ _ _ ix6 iy).mono ?_
      rintro e w7 ⟨rfl, m7, rfl⟩
      have P7 : (w6.drewN m7).heap[g0]? = _ := (b6.block g0 (by omega)).trans P5
      have R7 : (w6.drewN m7).heap[w.heap.size]? = _ := (b6.block w.heap.size (by omega)).trans R5
      have Q7 : (w6.drewN m7).heap[g1]? = _ := (b6.block g1 (by omega)).trans Q5
      have h07 := (h05.below' (by omega) b6).drewN m7
      have h17 := (h15.below' (by omega) b6).drewN m7
      have ox7 := (ox5.below_ b6).drewN m7
      have o17 := (o15.below_ b6).drewN m7
      have B7 := below_drewN (B5.trans (b6.mono (by omega))) m7
      have z7 : w5.heap.size ≤ (w6.drewN m7).heap.size := z6
      clear P5 R5 Q5 h05 h15 ox5 ix5 o15 B5 iy oy ix6 b6 z6
      generalize w6.drewN m7 = W7 at *
      go_wp2_with fail
      refine (h_markInt64S _ _ _ 1 _ ox7 (by omega) (by omega) hxl).mono ?_
      rintro e w8 ⟨rfl, -, hg8⟩
      have P8 := (hg8.block g0 (by omega) (fun e => by have := oxl _ e.symm; omega)).trans P7
      have R8 := (hg8.block w.heap.size (by omega) (fun e => by have := oxl _ e.symm; omega)).trans R7
      have Q8 := (hg8.block g1 (by omega) (fun e => by have := oxl _ e.symm; omega)).trans Q7
      have h08 := h07.grown hg8 (by omega) (fun b hb => by have := oxl b hb; omega)
      have o18 := o17.kept hg8 (by
        rcases hq : (Value.slice A1 L.length e1).ownBlock with _ | b
        · exact .inl rfl
        · refine .inr fun e => ?_
          have := oxl b e.symm
          have := o1l b hq
          omega)
      obtain ⟨A1', e1', e18, h18⟩ := o18.ints hLL
      injection e18 with e181 e182 e183
      subst e181 e183
      have B8 := B7.trans (grown_below hg8 (by omega) (fun b hb => by have := oxl b hb; omega))
      have z8 := hg8.size
      have hp : decide ((1 : Int) + xs.length < 0) = false := by simp; omega
      clear P7 R7 Q7 h07 h17 ox7 o17 B7 hg8 e182
      obtain ⟨c0, c1, c2, c3, c4, c5, c6, c7⟩ := fr_cells P8
      obtain ⟨d0, d1, d2, d3, d4, d5, d6, d7⟩ := fr_cells Q8
      go_wp2_with fail
      refine (h_eqFrame K Q T M R S V _ _ _ _ _ _ L _ _ _ h18 h08 (by omega) (by omega)).mono ?_
      rintro e w9 ⟨rfl, b9⟩
      have z9 := b9.size
      have P9 := (b9.block g0 (by omega)).trans P8
      have R9 := (b9.block w.heap.size (by omega)).trans R8
      have Q9 := (b9.block g1 (by omega)).trans Q8
      have h09 := h08.below' (by omega) b9
      have o19 := o18.below_ b9
      have B9 := B8.trans (b9.mono (by omega))
      clear P8 R8 Q8 h08 h18 o18 B8 c0 c1 c2 c3 c4 c5 c6 c7 d0 d1 d2 d3 d4 d5 d6 d7
      obtain ⟨d0, d1, d2, d3, d4, d5, d6, d7⟩ := fr_cells Q9
      go_wp2_with fail
      refine (h_markFrame K Q T M R S V _ _ _ L _ 1 _ o19 (by omega) (by omega) hLL).mono ?_
      rintro e wa ⟨rfl, oa, hga⟩
      have Pa := (hga.block g0 (by omega) (fun e => by have := o1l _ e.symm; omega)).trans P9
      have Ra := (hga.block w.heap.size (by omega) (fun e => by have := o1l _ e.symm; omega)).trans R9
      have Qa := (hga.block g1 (by omega) (fun e => by have := o1l _ e.symm; omega)).trans Q9
      have h0a := h09.grown hga (by omega) (fun b hb => by have := o1l b hb; omega)
      have Ba := B9.trans (grown_below hga (by omega) (fun b hb => by have := o1l b hb; omega))
      have za := hga.size
      obtain ⟨Am, em, ema, hma⟩ := oa.ints (by rw [marksL_len]; exact hLL)
      rw [marksL_len] at ema hma
      injection ema with ema1 ema2 ema3
      subst ema1 ema3
      clear P9 R9 Q9 h09 o19 B9 hga oa ema2 d0 d1 d2 d3 d4 d5 d6 d7
      obtain ⟨d0, d1, d2, d3, d4, d5, d6, d7⟩ := fr_cells Qa
      go_wp2_with fail
      refine (h_heldFrame K Q T M R S V _ _ _ _ 1 _ hma (by omega) (by omega) (by omega)).mono ?_
      rintro e wb ⟨rfl, bb⟩
      have zb := bb.size
      have Pb := (bb.block g0 (by omega)).trans Pa
      have Rb := (bb.block w.heap.size (by omega)).trans Ra
      have Qb := (bb.block g1 (by omega)).trans Qa
      have h0b := h0a.below' (by omega) bb
      have hmb := hma.below' (by omega) bb
      have Bb := Ba.trans (bb.mono (by omega))
      clear Pa Ra Qa h0a hma Ba d0 d1 d2 d3 d4 d5 d6 d7
      have zb' := Below.lt_of' Rb
      go_upto_region 22 with fail
      have RWb := Rb
      have BWb := Bb
      obtain ⟨Wb, hWb⟩ : ∃ W, W = wb := ⟨_, rfl⟩
      subst hWb
      go_upto_region 22 with fail
      go_cut [15, 16] from 80 to 88 (fun v5 v6 wx => v6 = .int .i64 C ∧ OfR w Wb Wb.heap.size w.heap.size (.cells #[.int .i64 t, .int .i64 m, .int .i64 r, .int .i64 s, .int .i64 v] 23 (0, 0)) K Q T M R S V L v5 wx)
      case first =>
        obtain ⟨s0, s1, s2, s3, s4⟩ := cells5 RWb
        have nw0 : Wb.heap.size ≠ w.heap.size := (by omega); have mw0 : w.heap.size ≠ Wb.heap.size := (by omega)
        go_region_held3 (fun w' => w'.cell? ⟨w.heap.size, 0, none⟩ = some (.int .i64 t) ∧ w'.cell? ⟨w.heap.size, 1, none⟩ = some (.int .i64 m) ∧ w'.cell? ⟨w.heap.size, 2, none⟩ = some (.int .i64 r) ∧ w'.cell? ⟨w.heap.size, 3, none⟩ = some (.int .i64 s) ∧ w'.cell? ⟨w.heap.size, 4, none⟩ = some (.int .i64 v)) (go_keep) (first | (go_at_call 24; refine (HTI.out _ (BWb.trans (Below.mono (B := Wb.heap.size) (by (first | exact Below.refl _ _ | exact below_drewN (Below.refl _ _) _ | exact (Below.refl _ _).drew | exact (Below.refl _ _).alloc (Nat.le_refl _) _ | exact ((Below.refl _ _).alloc (Nat.le_refl _) _).drew | exact below_drewN ((Below.refl _ _).alloc (Nat.le_refl _) _) _ | exact ((Below.refl _ _).drew.alloc (Nat.le_refl _) _) | exact ((Below.refl _ _).drew.alloc (Nat.le_refl _) _).drew)) (by omega)))).mono ?_; rintro e wa ⟨va, rfl, oa, hba⟩; obtain ⟨Aa, ca, rfl, Ia⟩ := oa.ints hxl; have hca : Below Wb.heap.size Wb wa := Below.from_ (by (first | exact Below.refl _ _ | exact below_drewN (Below.refl _ _) _ | exact (Below.refl _ _).drew | exact (Below.refl _ _).alloc (Nat.le_refl _) _ | exact ((Below.refl _ _).alloc (Nat.le_refl _) _).drew | exact below_drewN ((Below.refl _ _).alloc (Nat.le_refl _) _) _ | exact ((Below.refl _ _).drew.alloc (Nat.le_refl _) _) | exact ((Below.refl _ _).drew.alloc (Nat.le_refl _) _).drew)) hba; (first | (have ZR := (hca.block _ (Below.lt_of' ZR)).trans ZR) | (have ZR := (hba.block Wb.heap.size (by simp)).trans (heap_alloc_new Wb (.cells #[.int .i64 0, .int .i64 0, .int .i64 0, .int .i64 0, .int .i64 0, .int .i64 0, .int .i64 0, .slice none 0 0] 32))) | skip); have Ra := (hca.block w.heap.size (by omega)).trans RWb; have za := hca.size; (try clear s0 s1 s2 s3 s4); obtain ⟨s0, s1, s2, s3, s4⟩ := cells5 Ra; have BBa := BWb.trans (hca.mono (by omega)); have CCa := hca; have na0 : wa.heap.size ≠ w.heap.size := (by omega); have ma0 : w.heap.size ≠ wa.heap.size := (by omega); clear hba hca oa) | (go_at_call 28; refine (HTS.out _).mono ?_; rintro e wb ⟨rfl, hbb⟩; have hcb : Below wa.heap.size wa wb := Below.from_ (by (first | exact Below.refl _ _ | exact below_drewN (Below.refl _ _) _ | exact (Below.refl _ _).drew | exact (Below.refl _ _).alloc (Nat.le_refl _) _ | exact ((Below.refl _ _).alloc (Nat.le_refl _) _).drew | exact below_drewN ((Below.refl _ _).alloc (Nat.le_refl _) _) _ | exact ((Below.refl _ _).drew.alloc (Nat.le_refl _) _) | exact ((Below.refl _ _).drew.alloc (Nat.le_refl _) _).drew)) hbb; (first | (have ZR := (hcb.block _ (Below.lt_of' ZR)).trans ZR) | (have ZR := (hbb.block wa.heap.size (by simp)).trans (heap_alloc_new wa (.cells #[.int .i64 0, .int .i64 0, .int .i64 0, .int .i64 0, .int .i64 0, .int .i64 0, .int .i64 0, .slice none 0 0] 32))) | skip); have Rb := (hcb.block w.heap.size (by omega)).trans Ra; have zb := hcb.size; (try clear s0 s1 s2 s3 s4); obtain ⟨s0, s1, s2, s3, s4⟩ := cells5 Rb; have Ib := Ia.below hcb; have BBb := BBa.trans (hcb.mono (by omega)); have CCb := CCa.trans (hcb.mono (by omega)); have nb0 : wb.heap.size ≠ w.heap.size := (by omega); have mb0 : w.heap.size ≠ wb.heap.size := (by omega); clear hbb hcb) | (go_at_call 35; refine (HI.out _ _ _ _ _ (Ib.below' zb (by (first | exact Below.refl _ _ | exact below_drewN (Below.refl _ _) _ | exact (Below.refl _ _).drew | exact (Below.refl _ _).alloc (Nat.le_refl _) _ | exact ((Below.refl _ _).alloc (Nat.le_refl _) _).drew | exact below_drewN ((Below.refl _ _).alloc (Nat.le_refl _) _) _ | exact ((Below.refl _ _).drew.alloc (Nat.le_refl _) _) | exact ((Below.refl _ _).drew.alloc (Nat.le_refl _) _).drew))) (Nat.le_trans zb (Below.size (w := wb) (B := wb.heap.size) (by (first | exact Below.refl _ _ | exact below_drewN (Below.refl _ _) _ | exact (Below.refl _ _).drew | exact (Below.refl _ _).alloc (Nat.le_refl _) _ | exact ((Below.refl _ _).alloc (Nat.le_refl _) _).drew | exact below_drewN ((Below.refl _ _).alloc (Nat.le_refl _) _) _ | exact ((Below.refl _ _).drew.alloc (Nat.le_refl _) _) | exact ((Below.refl _ _).drew.alloc (Nat.le_refl _) _).drew))))).mono ?_; rintro e wc ⟨vs, rfl, ho, hbc⟩; obtain ⟨Ac, cc, rfl, -, -, -⟩ := ho.form; have hcc : Below wb.heap.size wb wc := Below.from_ (by (first | exact Below.refl _ _ | exact below_drewN (Below.refl _ _) _ | exact (Below.refl _ _).drew | exact (Below.refl _ _).alloc (Nat.le_refl _) _ | exact ((Below.refl _ _).alloc (Nat.le_refl _) _).drew | exact below_drewN ((Below.refl _ _).alloc (Nat.le_refl _) _) _ | exact ((Below.refl _ _).drew.alloc (Nat.le_refl _) _) | exact ((Below.refl _ _).drew.alloc (Nat.le_refl _) _).drew)) hbc; have OC : IOwn wc Wb.heap.size (.slice Ac L.length cc) L := IOwn.less_from ho (a := wb) (by (first | exact Below.refl _ _ | exact below_drewN (Below.refl _ _) _ | exact (Below.refl _ _).drew | exact (Below.refl _ _).alloc (Nat.le_refl _) _ | exact ((Below.refl _ _).alloc (Nat.le_refl _) _).drew | exact below_drewN ((Below.refl _ _).alloc (Nat.le_refl _) _) _ | exact ((Below.refl _ _).drew.alloc (Nat.le_refl _) _) | exact ((Below.refl _ _).drew.alloc (Nat.le_refl _) _).drew)) (by omega); (first | (have ZR := (hcc.block _ (Below.lt_of' ZR)).trans ZR) | (have ZR := (hbc.block wb.heap.size (by simp)).trans (heap_alloc_new wb (.cells #[.int .i64 0, .int .i64 0, .int .i64 0, .int .i64 0, .int .i64 0, .int .i64 0, .int .i64 0, .slice none 0 0] 32))) | skip); have Rc := (hcc.block w.heap.size (by omega)).trans Rb; have zc := hcc.size; (try clear s0 s1 s2 s3 s4); obtain ⟨s0, s1, s2, s3, s4⟩ := cells5 Rc; have BBc := BBb.trans (hcc.mono (by omega)); have CCc := CCb.trans (hcc.mono (by omega)); (try (have chk := ZR; clear chk; obtain ⟨e0, e1, e2, e3, e4, e5, e6, e7⟩ := fr_cells ZR; obtain ⟨k0, k1, k2, k3, k4, k5, k6, k7⟩ := fr_frozen ZR)); (try clear ho); (try clear hbc); (try clear hcc)))
        all_goals (try go_wp2_with fail)
        all_goals go_meet
        all_goals (case rel => first | (have chk := ZR; clear chk; exact ⟨rfl, OfR.mkQ ZR OC Rc (by omega) (by omega) CCc BBc (by omega)⟩) | exact ⟨rfl, OfR.mkP OC Rc (by omega) CCc BBc⟩)
      case rest =>
        obtain ⟨wd, hW2⟩ : ∃ W, W = wc := ⟨_, rfl⟩
        subst hW2
        obtain ⟨rfl, g2, A2, e2, rfl, hg2, P2', O2, R2', D2, B2'⟩ := hcut
        have Pd := (D2.block g0 (by omega)).trans Pb
        have Qd := (D2.block g1 (by omega)).trans Qb
        have h0d := h0b.below' (by omega) D2
        have hmd := hmb.below' (by omega) D2
        have zd := D2.size
        obtain ⟨-, h2d⟩ := O2.intsOf hLL
        clear RWb BWb Pb Qb h0b hmb Bb R2' Rb
        obtain ⟨c0, c1, c2, c3, c4, c5, c6, c7⟩ := fr_cells Pd
        obtain ⟨d0, d1, d2, d3, d4, d5, d6, d7⟩ := fr_cells P2'
        go_wp2_with fail
        refine (h_eqFrame K Q T M R S V _ _ _ _ _ _ L _ _ _ h2d h0d (by omega) (by omega)).mono ?_
        rintro e we ⟨rfl, be⟩
        have ze := be.size
        have Qe := (be.block g1 (by omega)).trans Qd
        have hme := hmd.below' (by omega) be
        have Be := B2'.trans (be.mono (by omega))
        clear Pd Qd P2' h0d hmd h2d B2' c0 c1 c2 c3 c4 c5 c6 c7 d0 d1 d2 d3 d4 d5 d6 d7
        obtain ⟨d0, d1, d2, d3, d4, d5, d6, d7⟩ := fr_cells Qe
        go_wp2_with fail
        refine (h_heldFrame K Q T M R S V _ _ _ _ 1 _ hme (by omega) (by omega) (by omega)).mono ?_
        rintro e wf ⟨rfl, bf⟩
        have Bf := Be.trans (bf.mono (by omega))
        go_wp2
        go_ret
        exact ⟨rfl, Bf⟩
end Go.Proofs.Ytpcdachkmekjgaa

/- The contracts of the draws of SealFrame's arguments. -/
import Derived.Test.YtpcdachkmekjgaaLawF
import Derived.BigRegion
import Derived.Deep.RegionWith
import Derived.Deep.RegionHeld3
namespace Go.Proofs.Ytpcdachkmekjgaa
open Go.RowKit
set_option linter.unusedSimpArgs false
set_option linter.unusedVariables false
theorem getId (q : Nat) (h : (q : Int) < 4) : ∃ v : Int, (#[Value.int .i64 (-1), Value.int .i64 0, Value.int .i64 16777215, Value.int .i64 16777216] : Array Value)[q]? = some (.int .i64 v) := by
  have h' : q < 4 := by omega
  match q, h' with
  | 0, _ => exact ⟨-1, rfl⟩
  | 1, _ => exact ⟨0, rfl⟩
  | 2, _ => exact ⟨16777215, rfl⟩
  | 3, _ => exact ⟨16777216, rfl⟩
def DrewN (B g : Nat) (w : World) (e : Ending) (w' : World) : Prop := ∃ r : Int, e = .returned (.int .i64 r) ∧ Src w' B g ∧ w.grownBy w' (some g)
theorem s_l07DrawId (g B : Nat) (w : World) (h : Src w B g) :
    Calls Try.prog 87 #[.pointer (some ⟨g, 0, none⟩)] w (DrewN B g w) := by
  have hl := h.lt
  go_enter Try.func87, Try.ntmps87
  go_wp2_with fail
  refine (s_l01Next g B 24 _ h).mono ?_
  rintro e w1 ⟨r, rfl, _, _, S1, g1⟩
  have z1 := g1.size
  clear h
  cases h0 : (r == 0)
  · go_wp2_with fail
    refine (s_l01Next g B 5000 _ S1).mono ?_
    rintro e w2 ⟨q, rfl, _, _, S2, g2⟩
    have G2 := grown_trans' g1 g2 (.inl rfl)
    go_wp2
    go_ret
    exact ⟨_, rfl, S2, G2⟩
  · go_wp2_with fail
    have SA := S1.alloc (.cells #[.int .i64 (-1), .int .i64 0, .int .i64 16777215, .int .i64 16777216] 2)
    refine (s_l01Next g B 4 _ SA).mono ?_
    rintro e w2 ⟨r2, rfl, r20, r21, S2, g2⟩
    have G2 := grown_trans' (grown_alloc g1 _) g2 (.inl rfl)
    have hZ := zkeep (heap_alloc_new w1 (.cells #[.int .i64 (-1), .int .i64 0, .int .i64 16777215, .int .i64 16777216] 2)) g2 (by omega)
    obtain ⟨q, rfl⟩ := nat_of' r2 r20
    have q0 : (0 : Int) ≤ (q : Int) := r20
    have q1 : (q : Int) < 4 := (by omega)
    obtain ⟨v, hv⟩ := getId q q1
    have hc := row_get hZ hv
    clear SA hZ hv r21
    go_wp2
    go_ret
    exact ⟨_, rfl, S2, G2⟩
theorem eight_other' {w : World} {g h : Nat} {v0 v1 v2 v3 v4 v5 v6 v7 : Value} (hn : h ≠ g) :
    ((((((((w.setCell ⟨g, 0, none⟩ v0).setCell ⟨g, 1, none⟩ v1).setCell ⟨g, 2, none⟩ v2).setCell ⟨g, 3, none⟩ v3).setCell ⟨g, 4, none⟩ v4).setCell ⟨g, 5, none⟩ v5).setCell ⟨g, 6, none⟩ v6).setCell ⟨g, 7, none⟩ v7).heap[h]? = w.heap[h]? := by
  have e (w : World) (k : Nat) (u : Value) : (w.setCell ⟨g, k, none⟩ u).heap[h]? = w.heap[h]? := heap_setCell_other _ _ _ _ (by show h ≠ g; omega)
  simp [e]
theorem five_other' {w : World} {g h : Nat} {v0 v1 v2 v3 v4 : Value} (hn : h ≠ g) :
    (((((w.setCell ⟨g, 0, none⟩ v0).setCell ⟨g, 1, none⟩ v1).setCell ⟨g, 2, none⟩ v2).setCell ⟨g, 3, none⟩ v3).setCell ⟨g, 4, none⟩ v4).heap[h]? = w.heap[h]? := by
  have e (w : World) (k : Nat) (u : Value) : (w.setCell ⟨g, k, none⟩ u).heap[h]? = w.heap[h]? := heap_setCell_other _ _ _ _ (by show h ≠ g; omega)
  simp [e]
theorem IOwn.fiveO {w : World} {base : Nat} {v : Value} {xs : List Int} (h : IOwn w base v xs) {g : Nat} (hg : v.ownBlock ≠ some g) (v0 v1 v2 v3 v4 : Value) :
    IOwn (((((w.setCell ⟨g, 0, none⟩ v0).setCell ⟨g, 1, none⟩ v1).setCell ⟨g, 2, none⟩ v2).setCell ⟨g, 3, none⟩ v3).setCell ⟨g, 4, none⟩ v4) base v xs :=
  ((((h.setO hg _).setO hg _).setO hg _).setO hg _).setO hg _
theorem src_eight {w : World} {B g b : Nat} (h : Src w B g) (hb : b ≠ g) (hB : B ≤ b) (v0 v1 v2 v3 v4 v5 v6 v7 : Value) :
    Src ((((((((w.setCell ⟨b, 0, none⟩ v0).setCell ⟨b, 1, none⟩ v1).setCell ⟨b, 2, none⟩ v2).setCell ⟨b, 3, none⟩ v3).setCell ⟨b, 4, none⟩ v4).setCell ⟨b, 5, none⟩ v5).setCell ⟨b, 6, none⟩ v6).setCell ⟨b, 7, none⟩ v7) B g :=
  src_set (src_set (src_set (src_set (src_set (src_set (src_set (src_set h hb hB 0 v0) hb hB 1 v1) hb hB 2 v2) hb hB 3 v3) hb hB 4 v4) hb hB 5 v5) hb hB 6 v6) hb hB 7 v7
theorem two_new (w : World) (a b : Obj) : ((w.alloc a).alloc b).heap[w.heap.size]? = some a ∧ ((w.alloc a).alloc b).heap[w.heap.size + 1]? = some b := by
  refine ⟨(Below.heap_alloc (w.alloc a) b w.heap.size (by simp)).trans (heap_alloc_new w a), ?_⟩
  have := heap_alloc_new (w.alloc a) b
  simpa using this
/-- The two boxes of the results, and what the frame's data are. -/
structure DQ (w : World) (gF gS : Nat) (f0 f1 f2 f3 f4 f5 f6 f7 s0 s1 s2 s3 s4 : Value) (A : Option Addr) (c : Nat) (xs : List Int) (W : World) : Prop where
  rf : W.heap[gF]? = some (.cells #[f0, f1, f2, f3, f4, f5, f6, f7] 32 (0, 0))
  rs : W.heap[gS]? = some (.cells #[s0, s1, s2, s3, s4] 30 (0, 0))
  own : IOwn W (w.heap.size + 2) (.slice A xs.length c) xs
  bel : Below w.heap.size w W
section
variable {w W : World} {gF gS g B : Nat} {f0 f1 f2 f3 f4 f5 f6 f7 s0 s1 s2 s3 s4 : Value} {A : Option Addr} {c : Nat} {xs : List Int}
theorem DQ.next (h : DQ w gF gS f0 f1 f2 f3 f4 f5 f6 f7 s0 s1 s2 s3 s4 A c xs W) (hF : g ≠ gF) (hS : g ≠ gS) (hg : w.heap.size ≤ g) (hO : (Value.slice A xs.length c).ownBlock ≠ some g) {W' : World} (g' : W.grownBy W' (some g)) : DQ w gF gS f0 f1 f2 f3 f4 f5 f6 f7 s0 s1 s2 s3 s4 A c xs W' :=
  ⟨zkeep h.rf g' hF, zkeep h.rs g' hS, h.own.kept g' (.inr hO), h.bel.trans (grown_below g' h.bel.size (fun q hq => by injection hq with hq; omega))⟩
theorem DQ.setF (h : DQ w gF gS f0 f1 f2 f3 f4 f5 f6 f7 s0 s1 s2 s3 s4 A c xs W) (hn : gS ≠ gF) (hF : gF < w.heap.size + 2) (hw : w.heap.size ≤ gF) (v0 v1 v2 v3 v4 v5 v6 v7 : Value) :
    DQ w gF gS v0 v1 v2 v3 v4 v5 v6 v7 s0 s1 s2 s3 s4 A c xs ((((((((W.setCell ⟨gF, 0, none⟩ v0).setCell ⟨gF, 1, none⟩ v1).setCell ⟨gF, 2, none⟩ v2).setCell ⟨gF, 3, none⟩ v3).setCell ⟨gF, 4, none⟩ v4).setCell ⟨gF, 5, none⟩ v5).setCell ⟨gF, 6, none⟩ v6).setCell ⟨gF, 7, none⟩ v7) :=
  ⟨eight_heap h.rf, (eight_other' hn).trans h.rs, h.own.eight hF v0 v1 v2 v3 v4 v5 v6 v7, below_eight h.bel hw⟩
theorem DQ.setS (h : DQ w gF gS f0 f1 f2 f3 f4 f5 f6 f7 s0 s1 s2 s3 s4 A c xs W) (hn : gF ≠ gS) (hS : gS < w.heap.size + 2) (hw : w.heap.size ≤ gS) (v0 v1 v2 v3 v4 : Value) :
    DQ w gF gS f0 f1 f2 f3 f4 f5 f6 f7 v0 v1 v2 v3 v4 A c xs (((((W.setCell ⟨gS, 0, none⟩ v0).setCell ⟨gS, 1, none⟩ v1).setCell ⟨gS, 2, none⟩ v2).setCell ⟨gS, 3, none⟩ v3).setCell ⟨gS, 4, none⟩ v4) :=
  ⟨(five_other' hn).trans h.rf, five_heap5 h.rs, ((((h.own.setB hS _).setB hS _).setB hS _).setB hS _).setB hS _, below_five5 h.bel hw⟩
end
theorem DQ.below {w W W' : World} {gF gS : Nat} {f0 f1 f2 f3 f4 f5 f6 f7 s0 s1 s2 s3 s4 : Value} {A : Option Addr} {c : Nat} {xs : List Int} (h : DQ w gF gS f0 f1 f2 f3 f4 f5 f6 f7 s0 s1 s2 s3 s4 A c xs W) (b : Below W.heap.size W W') : DQ w gF gS f0 f1 f2 f3 f4 f5 f6 f7 s0 s1 s2 s3 s4 A c xs W' :=
  ⟨(b.block gF (Below.ltK h.rf)).trans h.rf, (b.block gS (Below.ltK h.rs)).trans h.rs, h.own.below_ b, h.bel.trans (b.mono h.bel.size)⟩
theorem DQ.drewN {w W : World} {gF gS : Nat} {f0 f1 f2 f3 f4 f5 f6 f7 s0 s1 s2 s3 s4 : Value} {A : Option Addr} {c : Nat} {xs : List Int} (h : DQ w gF gS f0 f1 f2 f3 f4 f5 f6 f7 s0 s1 s2 s3 s4 A c xs W) (k : Nat) : DQ w gF gS f0 f1 f2 f3 f4 f5 f6 f7 s0 s1 s2 s3 s4 A c xs (W.drewN k) := ⟨h.rf, h.rs, h.own, below_drewN h.bel k⟩
theorem IOwn.intsO {w : World} {base c : Nat} {A : Option Addr} {xs : List Int} (h : IOwn w base (.slice A xs.length c) xs) (hs : xs.length ≤ 16777216) : IntsAt w w.heap.size A xs.length c xs := by
  obtain ⟨A', c', e, I⟩ := h.ints hs
  injection e with e1 e2 e3
  subst e1 e3
  exact I
def DrewSeal (w : World) (e : Ending) (w' : World) : Prop := ∃ (k q t m r s v : Int) (A : Option Addr) (c : Nat) (xs : List Int) (id T M R S V : Int),
  e = .returned (.tuple #[.agg #[.int .i64 k, .int .i64 q, .int .i64 t, .int .i64 m, .int .i64 r, .int .i64 s, .int .i64 v, .slice A xs.length c], .int .i64 id, .agg #[.int .i64 T, .int .i64 M, .int .i64 R, .int .i64 S, .int .i64 V]]) ∧
  xs.length ≤ 10000 ∧ IntsAt w' w'.heap.size A xs.length c xs ∧ Below w.heap.size w w'
set_option maxHeartbeats 4000000 in
theorem s_DrawSealFrame (A : Option Addr) (n c : Nat) (bs : List Int) (B : Nat) (w : World) (h : BytesAt w B A n c bs) (hB : B ≤ w.heap.size) :
    Calls Try.prog 45 #[.slice A n c] w (DrewSeal w) := by
  obtain ⟨RF, RS⟩ := two_new w (.cells #[.int .i64 0, .int .i64 0, .int .i64 0, .int .i64 0, .int .i64 0, .int .i64 0, .int .i64 0, .slice none 0 0] 32) (.cells #[.int .i64 0, .int .i64 0, .int .i64 0, .int .i64 0, .int .i64 0] 30)
  have B0 := ((Below.refl w.heap.size w).alloc (Nat.le_refl _) (.cells #[.int .i64 0, .int .i64 0, .int .i64 0, .int .i64 0, .int .i64 0, .int .i64 0, .int .i64 0, .slice none 0 0] 32)).alloc (by simp) (.cells #[.int .i64 0, .int .i64 0, .int .i64 0, .int .i64 0, .int .i64 0] 30)
  have h0 := h.below' hB B0
  have z0 := Below.ltK RS
  go_enter Try.func45, Try.ntmps45
  go_upto_region 1 with fail
  generalize World.alloc _ _ = W0 at *
  go_wp2_with fail
  refine (s_l01From _ _ _ _ B _ h0 (by omega)).mono ?_
  rintro e w1 ⟨g, rfl, S1, hgl, hb⟩
  have RF1 := (hb.block w.heap.size (by omega)).trans RF
  have RS1 := (hb.block (w.heap.size + 1) (by omega)).trans RS
  have B1 := B0.trans (hb.mono (by omega))
  have z1 := hb.size
  have y1 := S1.lt
  clear RF RS B0 h0 h
  go_wp2_with fail
  refine (s_l06DrawAny g B _ S1).mono ?_
  rintro e w2 ⟨k, q, t, m, r, s, v, vs, xs, rfl, hx, ho, S2, g2⟩
  obtain ⟨A2, c2, rfl, -, -, -⟩ := ho.form
  have RF2 := zkeep RF1 g2 (by omega)
  have RS2 := zkeep RS1 g2 (by omega)
  have B2 := B1.trans (grown_below g2 (by omega) (fun q hq => by injection hq with hq; omega))
  have z2 := g2.size
  have hO : (Value.slice A2 xs.length c2).ownBlock ≠ some g := own_ne' ho (by omega)
  have hR3 := heap_alloc_new w2 (.cells #[.int .i64 k, .int .i64 q, .int .i64 t, .int .i64 m, .int .i64 r, .int .i64 s, .int .i64 v, .slice A2 xs.length c2] 32)
  have D3 : DQ w w.heap.size (w.heap.size + 1) _ _ _ _ _ _ _ _ _ _ _ _ _ A2 c2 xs (w2.alloc (.cells #[.int .i64 k, .int .i64 q, .int .i64 t, .int .i64 m, .int .i64 r, .int .i64 s, .int .i64 v, .slice A2 xs.length c2] 32)) :=
    ⟨(Below.heap_alloc w2 _ _ (Below.ltK RF2)).trans RF2, (Below.heap_alloc w2 _ _ (Below.ltK RS2)).trans RS2, (ho.less (by omega)).alloc _, B2.alloc (by omega) _⟩
  have S3 := S2.alloc (.cells #[.int .i64 k, .int .i64 q, .int .i64 t, .int .i64 m, .int .i64 r, .int .i64 s, .int .i64 v, .slice A2 xs.length c2] 32)
  have lb : g < w2.heap.size := by omega
  have lw : w.heap.size + 1 < w2.heap.size := by omega
  clear RF1 RS1 B1 S1 hb RF2 RS2 B2 S2 g2 ho
  go_upto_region 3 with fail
  generalize w2.alloc _ = W3 at *
  generalize w2.heap.size = b at *
  go_wp2_with fail
  refine (s_l07DrawId g B _ S3).mono ?_
  rintro e w4 ⟨id, rfl, S4, g4⟩
  have hR4 := zkeep hR3 g4 (by omega)
  have D4 := D3.next (by omega) (by omega) (by omega) hO g4
  clear D3 S3 g4 hR3
  obtain ⟨d0, d1, d2, d3, d4, d5, d6, d7⟩ := fr_cells hR4
  have nF : w.heap.size + 1 ≠ w.heap.size := by omega
  have nS : w.heap.size ≠ w.heap.size + 1 := by omega
  have hBw : B ≤ w.heap.size := hB
  have nb1 : w.heap.size ≠ b := by omega
  have nb2 : b ≠ w.heap.size := by omega
  have nb3 : w.heap.size + 1 ≠ b := by omega
  have nb4 : b ≠ w.heap.size + 1 := by omega
  have KS := Lib.hid (s_l06State k w4)
  have KI := Lib.hid (fun W => s_IsState t m r s v W)
  cases hk : (k != 0)
  · go_wp2_with (go_at_call 88; refine KS.out.mono ?_; rintro e w' ⟨rfl, rfl⟩; rw [hk])
    go_upto_region 6 with fail
    (try clear KS); (try clear KI)
    go_region_held3 (fun w' => w'.cell? ⟨b, 0, none⟩ = some (.int .i64 k) ∧ w'.cell? ⟨b, 1, none⟩ = some (.int .i64 q) ∧ w'.cell? ⟨b, 2, none⟩ = some (.int .i64 t) ∧ w'.cell? ⟨b, 3, none⟩ = some (.int .i64 m) ∧ w'.cell? ⟨b, 4, none⟩ = some (.int .i64 r) ∧ w'.cell? ⟨b, 5, none⟩ = some (.int .i64 s) ∧ w'.cell? ⟨b, 6, none⟩ = some (.int .i64 v) ∧ w'.cell? ⟨b, 7, none⟩ = some (.slice A2 xs.length c2)) (go_keep) (first | (go_at_call 89; refine (s_l04DrawAny g B _ (by first | exact S4 | exact S4.drewN 1)).mono ?_; rintro e w9 ⟨T, M, R, S, V, rfl, S9, g9⟩; have hR9 := zkeep (by first | exact hR4 | exact (show (w4.drewN 1).heap[b]? = _ from hR4)) g9 (by omega); have D9 := DQ.next (by first | exact D4 | exact D4.drewN 1) (by omega) (by omega) (by omega) hO g9; obtain ⟨d0, d1, d2, d3, d4, d5, d6, d7⟩ := fr_cells hR9; obtain ⟨k0, k1, k2, k3, k4, k5, k6, k7⟩ := fr_frozen D9.rf; obtain ⟨m0, m1, m2, m3, m4, m5, m6, m7⟩ := fr_cells D9.rf; obtain ⟨n0, n1, n2, n3, n4⟩ := desc_cells D9.rs; have j0 := frozen_of_row _ _ 0 _ _ D9.rs; have j1 := frozen_of_row _ _ 1 _ _ D9.rs; have j2 := frozen_of_row _ _ 2 _ _ D9.rs; have j3 := frozen_of_row _ _ 3 _ _ D9.rs; have j4 := frozen_of_row _ _ 4 _ _ D9.rs; have HF := Lib.hid ((D9.setF nF (by omega) (by omega) (.int .i64 k) (.int .i64 q) (.int .i64 t) (.int .i64 m) (.int .i64 r) (.int .i64 s) (.int .i64 v) (.slice A2 xs.length c2)).setS nS (by omega) (by omega) (.int .i64 T) (.int .i64 M) (.int .i64 R) (.int .i64 S) (.int .i64 V)); clear S9 g9 D9))
    go_wp2
    have F := HF.out
    clear HF
    revert F
    generalize World.setCell _ _ _ = WF
    intro F
    obtain ⟨e0, e1, e2, e3, e4, e5, e6, e7⟩ := fr_cells F.rf
    obtain ⟨s0, s1, s2, s3, s4⟩ := desc_cells F.rs
    exact bodyPost_ret (v := .tuple #[.agg #[.int .i64 k, .int .i64 q, .int .i64 t, .int .i64 m, .int .i64 r, .int .i64 s, .int .i64 v, .slice A2 xs.length c2], .int .i64 id, .agg #[.int .i64 T, .int .i64 M, .int .i64 R, .int .i64 S, .int .i64 V]]) (by simp [results, Try.results45, go_sem, e0, e1, e2, e3, e4, e5, e6, e7, s0, s1, s2, s3, s4]) rfl ⟨_, _, _, _, _, _, _, _, _, _, _, _, _, _, _, _, rfl, hx, (F).own.intsO (by omega), (F).bel⟩
  · replace KI := KI.out
    generalize stOk t m r s v = ok at KI
    replace KI := Lib.hid KI
    cases ok
    · go_wp2_with (first | (go_at_call 88; refine KS.out.mono ?_; rintro e w' ⟨rfl, rfl⟩; rw [hk]) | (go_at_call 66; refine (KI.out _).mono ?_; rintro e w5 ⟨rfl, b5⟩; have S5 := S4.below b5; have D5 := D4.below b5; have hR5 := (b5.block b (Below.ltK hR4)).trans hR4; have z5 := b5.size; clear S4 D4 hR4 d0 d1 d2 d3 d4 d5 d6 d7 b5 KI KS; obtain ⟨d0, d1, d2, d3, d4, d5, d6, d7⟩ := fr_cells hR5))
      go_upto_region 6 with fail
      (try clear KS); (try clear KI)
      go_region_held3 (fun w' => w'.cell? ⟨b, 0, none⟩ = some (.int .i64 k) ∧ w'.cell? ⟨b, 1, none⟩ = some (.int .i64 q) ∧ w'.cell? ⟨b, 2, none⟩ = some (.int .i64 t) ∧ w'.cell? ⟨b, 3, none⟩ = some (.int .i64 m) ∧ w'.cell? ⟨b, 4, none⟩ = some (.int .i64 r) ∧ w'.cell? ⟨b, 5, none⟩ = some (.int .i64 s) ∧ w'.cell? ⟨b, 6, none⟩ = some (.int .i64 v) ∧ w'.cell? ⟨b, 7, none⟩ = some (.slice A2 xs.length c2)) (go_keep) (first | (go_at_call 89; refine (s_l04DrawAny g B _ (by first | exact S5 | exact S5.drewN 1)).mono ?_; rintro e w9 ⟨T, M, R, S, V, rfl, S9, g9⟩; have hR9 := zkeep (by first | exact hR5 | exact (show (w5.drewN 1).heap[b]? = _ from hR5)) g9 (by omega); have D9 := DQ.next (by first | exact D5 | exact D5.drewN 1) (by omega) (by omega) (by omega) hO g9; obtain ⟨d0, d1, d2, d3, d4, d5, d6, d7⟩ := fr_cells hR9; obtain ⟨k0, k1, k2, k3, k4, k5, k6, k7⟩ := fr_frozen D9.rf; obtain ⟨m0, m1, m2, m3, m4, m5, m6, m7⟩ := fr_cells D9.rf; obtain ⟨n0, n1, n2, n3, n4⟩ := desc_cells D9.rs; have j0 := frozen_of_row _ _ 0 _ _ D9.rs; have j1 := frozen_of_row _ _ 1 _ _ D9.rs; have j2 := frozen_of_row _ _ 2 _ _ D9.rs; have j3 := frozen_of_row _ _ 3 _ _ D9.rs; have j4 := frozen_of_row _ _ 4 _ _ D9.rs; have HF := Lib.hid ((D9.setF nF (by omega) (by omega) (.int .i64 k) (.int .i64 q) (.int .i64 t) (.int .i64 m) (.int .i64 r) (.int .i64 s) (.int .i64 v) (.slice A2 xs.length c2)).setS nS (by omega) (by omega) (.int .i64 T) (.int .i64 M) (.int .i64 R) (.int .i64 S) (.int .i64 V)); clear S9 g9 D9))
      go_wp2
      have F := HF.out
      clear HF
      revert F
      generalize World.setCell _ _ _ = WF
      intro F
      obtain ⟨e0, e1, e2, e3, e4, e5, e6, e7⟩ := fr_cells F.rf
      obtain ⟨s0, s1, s2, s3, s4⟩ := desc_cells F.rs
      exact bodyPost_ret (v := .tuple #[.agg #[.int .i64 k, .int .i64 q, .int .i64 t, .int .i64 m, .int .i64 r, .int .i64 s, .int .i64 v, .slice A2 xs.length c2], .int .i64 id, .agg #[.int .i64 T, .int .i64 M, .int .i64 R, .int .i64 S, .int .i64 V]]) (by simp [results, Try.results45, go_sem, e0, e1, e2, e3, e4, e5, e6, e7, s0, s1, s2, s3, s4]) rfl ⟨_, _, _, _, _, _, _, _, _, _, _, _, _, _, _, _, rfl, hx, (F).own.intsO (by omega), (F).bel⟩
    · go_wp2_with (first | (go_at_call 88; refine KS.out.mono ?_; rintro e w' ⟨rfl, rfl⟩; rw [hk]) | (go_at_call 66; refine (KI.out _).mono ?_; rintro e w5 ⟨rfl, b5⟩; have S5 := S4.below b5; have D5 := D4.below b5; have hR5 := (b5.block b (Below.ltK hR4)).trans hR4; have z5 := b5.size; clear S4 D4 hR4 d0 d1 d2 d3 d4 d5 d6 d7 b5 KI KS; obtain ⟨d0, d1, d2, d3, d4, d5, d6, d7⟩ := fr_cells hR5))
      refine (s_l01Next g B 3 _ S5).mono ?_
      rintro e w6 ⟨x, rfl, hx0, _, S6, g6⟩
      have hR6 := zkeep hR5 g6 (by omega)
      have D6 := D5.next (by omega) (by omega) (by omega) hO g6
      clear S5 D5 hR5 g6 d0 d1 d2 d3 d4 d5 d6 d7
      obtain ⟨d0, d1, d2, d3, d4, d5, d6, d7⟩ := fr_cells hR6
      rcases (show x ≤ 0 ∨ 0 < x by omega) with hxx | hxx
      · go_wp2_with fail
        go_upto_region 6 with fail
        (try clear KS); (try clear KI)
        go_region_held3 (fun w' => w'.cell? ⟨b, 0, none⟩ = some (.int .i64 k) ∧ w'.cell? ⟨b, 1, none⟩ = some (.int .i64 q) ∧ w'.cell? ⟨b, 2, none⟩ = some (.int .i64 t) ∧ w'.cell? ⟨b, 3, none⟩ = some (.int .i64 m) ∧ w'.cell? ⟨b, 4, none⟩ = some (.int .i64 r) ∧ w'.cell? ⟨b, 5, none⟩ = some (.int .i64 s) ∧ w'.cell? ⟨b, 6, none⟩ = some (.int .i64 v) ∧ w'.cell? ⟨b, 7, none⟩ = some (.slice A2 xs.length c2)) (go_keep) (first | (go_at_call 89; refine (s_l04DrawAny g B _ (by first | exact S6 | exact S6.drewN 1)).mono ?_; rintro e w9 ⟨T, M, R, S, V, rfl, S9, g9⟩; have hR9 := zkeep (by first | exact hR6 | exact (show (w6.drewN 1).heap[b]? = _ from hR6)) g9 (by omega); have D9 := DQ.next (by first | exact D6 | exact D6.drewN 1) (by omega) (by omega) (by omega) hO g9; obtain ⟨d0, d1, d2, d3, d4, d5, d6, d7⟩ := fr_cells hR9; obtain ⟨k0, k1, k2, k3, k4, k5, k6, k7⟩ := fr_frozen D9.rf; obtain ⟨m0, m1, m2, m3, m4, m5, m6, m7⟩ := fr_cells D9.rf; obtain ⟨n0, n1, n2, n3, n4⟩ := desc_cells D9.rs; have j0 := frozen_of_row _ _ 0 _ _ D9.rs; have j1 := frozen_of_row _ _ 1 _ _ D9.rs; have j2 := frozen_of_row _ _ 2 _ _ D9.rs; have j3 := frozen_of_row _ _ 3 _ _ D9.rs; have j4 := frozen_of_row _ _ 4 _ _ D9.rs; have HF := Lib.hid ((D9.setF nF (by omega) (by omega) (.int .i64 k) (.int .i64 q) (.int .i64 t) (.int .i64 m) (.int .i64 r) (.int .i64 s) (.int .i64 v) (.slice A2 xs.length c2)).setS nS (by omega) (by omega) (.int .i64 T) (.int .i64 M) (.int .i64 R) (.int .i64 S) (.int .i64 V)); clear S9 g9 D9))
        go_wp2
        have F := HF.out
        clear HF
        revert F
        generalize World.setCell _ _ _ = WF
        intro F
        obtain ⟨e0, e1, e2, e3, e4, e5, e6, e7⟩ := fr_cells F.rf
        obtain ⟨s0, s1, s2, s3, s4⟩ := desc_cells F.rs
        exact bodyPost_ret (v := .tuple #[.agg #[.int .i64 k, .int .i64 q, .int .i64 t, .int .i64 m, .int .i64 r, .int .i64 s, .int .i64 v, .slice A2 xs.length c2], .int .i64 id, .agg #[.int .i64 T, .int .i64 M, .int .i64 R, .int .i64 S, .int .i64 V]]) (by simp [results, Try.results45, go_sem, e0, e1, e2, e3, e4, e5, e6, e7, s0, s1, s2, s3, s4]) rfl ⟨_, _, _, _, _, _, _, _, _, _, _, _, _, _, _, _, rfl, hx, (F).own.intsO (by omega), (F).bel⟩
      · go_wp2_with fail
        go_upto_region 5 with fail
        (try clear KS); (try clear KI)
        obtain ⟨k0, k1, k2, k3, k4, k5, k6, k7⟩ := fr_frozen D6.rf
        obtain ⟨m0, m1, m2, m3, m4, m5, m6, m7⟩ := fr_cells D6.rf
        obtain ⟨n0, n1, n2, n3, n4⟩ := desc_cells D6.rs
        have j0 := frozen_of_row _ _ 0 _ _ D6.rs
        have j1 := frozen_of_row _ _ 1 _ _ D6.rs
        have j2 := frozen_of_row _ _ 2 _ _ D6.rs
        have j3 := frozen_of_row _ _ 3 _ _ D6.rs
        have j4 := frozen_of_row _ _ 4 _ _ D6.rs
        have HF := Lib.hid ((D6.setF nF (by omega) (by omega) (.int .i64 k) (.int .i64 q) (.int .i64 t) (.int .i64 m) (.int .i64 r) (.int .i64 s) (.int .i64 v) (.slice A2 xs.length c2)).setS nS (by omega) (by omega) (.int .i64 t) (.int .i64 m) (.int .i64 r) (.int .i64 s) (.int .i64 v))
        go_region_held3 (fun w' => w'.cell? ⟨b, 0, none⟩ = some (.int .i64 k) ∧ w'.cell? ⟨b, 1, none⟩ = some (.int .i64 q) ∧ w'.cell? ⟨b, 2, none⟩ = some (.int .i64 t) ∧ w'.cell? ⟨b, 3, none⟩ = some (.int .i64 m) ∧ w'.cell? ⟨b, 4, none⟩ = some (.int .i64 r) ∧ w'.cell? ⟨b, 5, none⟩ = some (.int .i64 s) ∧ w'.cell? ⟨b, 6, none⟩ = some (.int .i64 v) ∧ w'.cell? ⟨b, 7, none⟩ = some (.slice A2 xs.length c2)) (go_keep) (fail)
        go_wp2
        have F := HF.out
        clear HF
        revert F
        generalize World.setCell _ _ _ = WF
        intro F
        obtain ⟨e0, e1, e2, e3, e4, e5, e6, e7⟩ := fr_cells F.rf
        obtain ⟨s0, s1, s2, s3, s4⟩ := desc_cells F.rs
        exact bodyPost_ret (v := .tuple #[.agg #[.int .i64 k, .int .i64 q, .int .i64 t, .int .i64 m, .int .i64 r, .int .i64 s, .int .i64 v, .slice A2 xs.length c2], .int .i64 id, .agg #[.int .i64 t, .int .i64 m, .int .i64 r, .int .i64 s, .int .i64 v]]) (by simp [results, Try.results45, go_sem, e0, e1, e2, e3, e4, e5, e6, e7, s0, s1, s2, s3, s4]) rfl ⟨_, _, _, _, _, _, _, _, _, _, _, _, _, _, _, _, rfl, hx, (F.drewN 1).own.intsO (by omega), (F.drewN 1).bel⟩
end Go.Proofs.Ytpcdachkmekjgaa

/- The walk of the law on EmptyFrame. -/
import Derived.Test.YtecelofoffdjlaaEmpH
import Derived.Test.YtecelofoffdjlaaEmp3
import Derived.Deep.CutRange
namespace Go.Proofs.Ytecelofoffdjlaa
open Go.RowKit
set_option linter.unusedSimpArgs false
set_option linter.unusedVariables false
theorem IOwn.less_from {a X w' : World} {v : Value} {xs : List Int} {k : Nat} (ho : IOwn w' X.heap.size v xs) (hX : Below a.heap.size a X) (h : k ≤ a.heap.size) : IOwn w' k v xs := ho.less (Nat.le_trans h hX.size)
theorem IOwn.intsOf {w : World} {base n c : Nat} {A : Option Addr} {xs : List Int} (h : IOwn w base (.slice A n c) xs) (hs : xs.length ≤ 16777216) : n = xs.length ∧ IntsAt w w.heap.size A xs.length c xs := by
  obtain ⟨A', c', e, I⟩ := h.ints hs
  injection e with e1 e2 e3
  subst e1 e2 e3
  exact ⟨rfl, I⟩
theorem alloc2_at {w W : World} {a b : Obj} (hW : (w.alloc a).alloc b = W) : W.heap[w.heap.size]? = some a ∧ W.heap[w.heap.size + 1]? = some b ∧ Below w.heap.size w W := by
  subst hW
  obtain ⟨h1, h2⟩ := alloc2 w a b
  exact ⟨h1, h2, ((Below.refl _ _).alloc (Nat.le_refl _) _).alloc (by simp) _⟩
def EmpQ (w : World) (C K T M R S V : Int) (L : List Int) (e : Ending) (w' : World) : Prop :=
  ∃ vs, e = .returned (.tuple #[.agg #[.int .i64 K, .int .i64 0, .int .i64 T, .int .i64 M, .int .i64 R, .int .i64 S, .int .i64 V, vs], .int .i64 C]) ∧ IOwn w' w.heap.size vs L ∧ Below w.heap.size w w'
set_option maxHeartbeats 8000000 in
theorem w_EmptyFrame_ (nd dk dz du : Int) (ch : Bool) (t m r s v : Int) (C K T M R S V : Int) (L : List Int) (hL : L.length ≤ 1000)
    (hs : ∀ w, Calls Try.prog 31 #[.agg #[.int .i64 nd, .int .i64 dk, .int .i64 dz, .int .i64 du, .bool ch], .agg #[.int .i64 t, .int .i64 m, .int .i64 r, .int .i64 s, .int .i64 v]] w (EmpQ w C K T M R S V L)) (hi : ∀ w, Calls Try.prog 33 #[.agg #[.int .i64 nd, .int .i64 dk, .int .i64 dz, .int .i64 du, .bool ch], .agg #[.int .i64 t, .int .i64 m, .int .i64 r, .int .i64 s, .int .i64 v]] w (EmpQ w C K T M R S V L)) (w : World) :
    Calls Try.prog 7 #[.agg #[.int .i64 nd, .int .i64 dk, .int .i64 dz, .int .i64 du, .bool ch], .agg #[.int .i64 t, .int .i64 m, .int .i64 r, .int .i64 s, .int .i64 v]] w fun e w' => e = .returned (.bool true) ∧ Below w.heap.size w w' := by
  have HS := Lib.hid hs; have HI := Lib.hid hi; clear hs hi
  go_enter Try.func7, Try.ntmps7
  go_wp2_with fail
  generalize hW0 : World.alloc _ _ = W0
  obtain ⟨RW0, QW0, BW0⟩ := alloc2_at hW0
  clear hW0
  have y1 : w.heap.size < w.heap.size + 1 := (by omega)
  generalize w.heap.size + 1 = g1 at QW0 y1 ⊢
  have zW0 := Below.lt_of' QW0
  go_upto_region 1 with fail
  go_cut [5, 6] from 13 to 20 (fun v5 v6 wx => v6 = .int .i64 C ∧ EmR w W0 W0.heap.size w.heap.size g1 (.cells #[.int .i64 nd, .int .i64 dk, .int .i64 dz, .int .i64 du, .bool ch] 23) (.cells #[.int .i64 t, .int .i64 m, .int .i64 r, .int .i64 s, .int .i64 v] 40) K T M R S V L v5 wx)
  case first =>
    obtain ⟨d0, d1, d2, d3, d4⟩ := desc_cells RW0
    obtain ⟨s0, s1, s2, s3, s4⟩ := desc_cells QW0
    have nw0 : W0.heap.size ≠ w.heap.size := (by omega); have nw1 : W0.heap.size ≠ g1 := (by omega); have mw0 : w.heap.size ≠ W0.heap.size := (by omega); have mw1 : g1 ≠ W0.heap.size := (by omega)
    go_region_held3 (fun w' => w'.cell? ⟨w.heap.size, 0, none⟩ = some (.int .i64 nd) ∧ w'.cell? ⟨w.heap.size, 1, none⟩ = some (.int .i64 dk) ∧ w'.cell? ⟨w.heap.size, 2, none⟩ = some (.int .i64 dz) ∧ w'.cell? ⟨w.heap.size, 3, none⟩ = some (.int .i64 du) ∧ w'.cell? ⟨w.heap.size, 4, none⟩ = some (.bool ch) ∧ w'.cell? ⟨g1, 0, none⟩ = some (.int .i64 t) ∧ w'.cell? ⟨g1, 1, none⟩ = some (.int .i64 m) ∧ w'.cell? ⟨g1, 2, none⟩ = some (.int .i64 r) ∧ w'.cell? ⟨g1, 3, none⟩ = some (.int .i64 s) ∧ w'.cell? ⟨g1, 4, none⟩ = some (.int .i64 v)) (go_keep) (first | (go_at_call 15; refine (h_toDescriptor nd dk dz du ch _).mono ?_; rintro e wa ⟨rfl, hba⟩; have hca : Below W0.heap.size W0 wa := Below.from_ (by (first | exact Below.refl _ _ | exact below_drewN (Below.refl _ _) _ | exact (Below.refl _ _).drew | exact (Below.refl _ _).alloc (Nat.le_refl _) _ | exact ((Below.refl _ _).alloc (Nat.le_refl _) _).drew | exact below_drewN ((Below.refl _ _).alloc (Nat.le_refl _) _) _ | exact ((Below.refl _ _).drew.alloc (Nat.le_refl _) _) | exact ((Below.refl _ _).drew.alloc (Nat.le_refl _) _).drew)) hba; (first | (have ZR := (hca.block _ (Below.lt_of' ZR)).trans ZR) | (have ZR := (hba.block W0.heap.size (by simp)).trans (heap_alloc_new W0 (.cells #[.int .i64 0, .int .i64 0, .int .i64 0, .int .i64 0, .int .i64 0, .int .i64 0, .int .i64 0, .slice none 0 0] 47))) | skip); have Ra := (hca.block w.heap.size (by omega)).trans RW0; have Qa := (hca.block g1 (by omega)).trans QW0; have za := hca.size; (try clear d0 d1 d2 d3 d4); (try clear s0 s1 s2 s3 s4); obtain ⟨d0, d1, d2, d3, d4⟩ := desc_cells Ra; obtain ⟨s0, s1, s2, s3, s4⟩ := desc_cells Qa; have BBa := BW0.trans (hca.mono (by omega)); have CCa := hca; have na0 : wa.heap.size ≠ w.heap.size := (by omega); have na1 : wa.heap.size ≠ g1 := (by omega); have ma0 : w.heap.size ≠ wa.heap.size := (by omega); have ma1 : g1 ≠ wa.heap.size := (by omega); clear hba hca) | (go_at_call 32; refine (h_toState t m r s v _).mono ?_; rintro e wb ⟨rfl, hbb⟩; have hcb : Below wa.heap.size wa wb := Below.from_ (by (first | exact Below.refl _ _ | exact below_drewN (Below.refl _ _) _ | exact (Below.refl _ _).drew | exact (Below.refl _ _).alloc (Nat.le_refl _) _ | exact ((Below.refl _ _).alloc (Nat.le_refl _) _).drew | exact below_drewN ((Below.refl _ _).alloc (Nat.le_refl _) _) _ | exact ((Below.refl _ _).drew.alloc (Nat.le_refl _) _) | exact ((Below.refl _ _).drew.alloc (Nat.le_refl _) _).drew)) hbb; (first | (have ZR := (hcb.block _ (Below.lt_of' ZR)).trans ZR) | (have ZR := (hbb.block wa.heap.size (by simp)).trans (heap_alloc_new wa (.cells #[.int .i64 0, .int .i64 0, .int .i64 0, .int .i64 0, .int .i64 0, .int .i64 0, .int .i64 0, .slice none 0 0] 47))) | skip); have Rb := (hcb.block w.heap.size (by omega)).trans Ra; have Qb := (hcb.block g1 (by omega)).trans Qa; have zb := hcb.size; (try clear d0 d1 d2 d3 d4); (try clear s0 s1 s2 s3 s4); obtain ⟨d0, d1, d2, d3, d4⟩ := desc_cells Rb; obtain ⟨s0, s1, s2, s3, s4⟩ := desc_cells Qb; have BBb := BBa.trans (hcb.mono (by omega)); have CCb := CCa.trans (hcb.mono (by omega)); have nb0 : wb.heap.size ≠ w.heap.size := (by omega); have nb1 : wb.heap.size ≠ g1 := (by omega); have mb0 : w.heap.size ≠ wb.heap.size := (by omega); have mb1 : g1 ≠ wb.heap.size := (by omega); clear hbb hcb) | (go_at_call 31; refine (HS.out _).mono ?_; rintro e wc ⟨vs, rfl, ho, hbc⟩; obtain ⟨Ac, cc, rfl, -, -, -⟩ := ho.form; have hcc : Below wb.heap.size wb wc := Below.from_ (by (first | exact Below.refl _ _ | exact below_drewN (Below.refl _ _) _ | exact (Below.refl _ _).drew | exact (Below.refl _ _).alloc (Nat.le_refl _) _ | exact ((Below.refl _ _).alloc (Nat.le_refl _) _).drew | exact below_drewN ((Below.refl _ _).alloc (Nat.le_refl _) _) _ | exact ((Below.refl _ _).drew.alloc (Nat.le_refl _) _) | exact ((Below.refl _ _).drew.alloc (Nat.le_refl _) _).drew)) hbc; have OC : IOwn wc W0.heap.size (.slice Ac L.length cc) L := IOwn.less_from ho (a := wb) (by (first | exact Below.refl _ _ | exact below_drewN (Below.refl _ _) _ | exact (Below.refl _ _).drew | exact (Below.refl _ _).alloc (Nat.le_refl _) _ | exact ((Below.refl _ _).alloc (Nat.le_refl _) _).drew | exact below_drewN ((Below.refl _ _).alloc (Nat.le_refl _) _) _ | exact ((Below.refl _ _).drew.alloc (Nat.le_refl _) _) | exact ((Below.refl _ _).drew.alloc (Nat.le_refl _) _).drew)) (by omega); (first | (have ZR := (hcc.block _ (Below.lt_of' ZR)).trans ZR) | (have ZR := (hbc.block wb.heap.size (by simp)).trans (heap_alloc_new wb (.cells #[.int .i64 0, .int .i64 0, .int .i64 0, .int .i64 0, .int .i64 0, .int .i64 0, .int .i64 0, .slice none 0 0] 47))) | skip); have Rc := (hcc.block w.heap.size (by omega)).trans Rb; have Qc := (hcc.block g1 (by omega)).trans Qb; have zc := hcc.size; (try clear d0 d1 d2 d3 d4); (try clear s0 s1 s2 s3 s4); obtain ⟨d0, d1, d2, d3, d4⟩ := desc_cells Rc; obtain ⟨s0, s1, s2, s3, s4⟩ := desc_cells Qc; have BBc := BBb.trans (hcc.mono (by omega)); have CCc := CCb.trans (hcc.mono (by omega)); (try (obtain ⟨e0, e1, e2, e3, e4, e5, e6, e7⟩ := fr_cells ZR; have k0 := frozen_of_row _ _ 0 _ _ ZR; have k1 := frozen_of_row _ _ 1 _ _ ZR; have k2 := frozen_of_row _ _ 2 _ _ ZR; have k3 := frozen_of_row _ _ 3 _ _ ZR; have k4 := frozen_of_row _ _ 4 _ _ ZR; have k5 := frozen_of_row _ _ 5 _ _ ZR; have k6 := frozen_of_row _ _ 6 _ _ ZR; have k7 := frozen_of_row _ _ 7 _ _ ZR)); clear ho hbc hcc))
    all_goals (try go_wp2_with fail)
    all_goals go_meet
    all_goals (case rel => first | (have chk := ZR; clear chk; exact ⟨rfl, EmR.mkQ ZR OC Rc Qc (by omega) (by omega) (by omega) CCc BBc (by omega)⟩) | exact ⟨rfl, EmR.mkP OC Rc Qc (by omega) CCc BBc⟩)
  case rest =>
    obtain ⟨W1, hW1⟩ : ∃ W, W = wc := ⟨_, rfl⟩
    subst hW1
    obtain ⟨rfl, g5, A5, c5, rfl, hg5, P5, O5, RW1, QW1, D5, BW1⟩ := hcut
    clear RW0 QW0 BW0 D5
    obtain ⟨-, I5⟩ := O5.intsOf (by omega)
    have zW1 := Below.lt_of' QW1
    have zP5 := Below.lt_of' P5
    clear O5
    go_upto_region 2 with fail
    go_cut [7, 8] from 21 to 28 (fun v5 v6 wx => v6 = .int .i64 C ∧ EmR w W1 W1.heap.size w.heap.size g1 (.cells #[.int .i64 nd, .int .i64 dk, .int .i64 dz, .int .i64 du, .bool ch] 23) (.cells #[.int .i64 t, .int .i64 m, .int .i64 r, .int .i64 s, .int .i64 v] 40) K T M R S V L v5 wx)
    case first =>
      obtain ⟨d0, d1, d2, d3, d4⟩ := desc_cells RW1
      obtain ⟨s0, s1, s2, s3, s4⟩ := desc_cells QW1
      have nw0 : W1.heap.size ≠ w.heap.size := (by omega); have nw1 : W1.heap.size ≠ g1 := (by omega); have mw0 : w.heap.size ≠ W1.heap.size := (by omega); have mw1 : g1 ≠ W1.heap.size := (by omega)
      go_region_held3 (fun w' => w'.cell? ⟨w.heap.size, 0, none⟩ = some (.int .i64 nd) ∧ w'.cell? ⟨w.heap.size, 1, none⟩ = some (.int .i64 dk) ∧ w'.cell? ⟨w.heap.size, 2, none⟩ = some (.int .i64 dz) ∧ w'.cell? ⟨w.heap.size, 3, none⟩ = some (.int .i64 du) ∧ w'.cell? ⟨w.heap.size, 4, none⟩ = some (.bool ch) ∧ w'.cell? ⟨g1, 0, none⟩ = some (.int .i64 t) ∧ w'.cell? ⟨g1, 1, none⟩ = some (.int .i64 m) ∧ w'.cell? ⟨g1, 2, none⟩ = some (.int .i64 r) ∧ w'.cell? ⟨g1, 3, none⟩ = some (.int .i64 s) ∧ w'.cell? ⟨g1, 4, none⟩ = some (.int .i64 v)) (go_keep) (first | (go_at_call 15; refine (h_toDescriptor nd dk dz du ch _).mono ?_; rintro e wa ⟨rfl, hba⟩; have hca : Below W1.heap.size W1 wa := Below.from_ (by (first | exact Below.refl _ _ | exact below_drewN (Below.refl _ _) _ | exact (Below.refl _ _).drew | exact (Below.refl _ _).alloc (Nat.le_refl _) _ | exact ((Below.refl _ _).alloc (Nat.le_refl _) _).drew | exact below_drewN ((Below.refl _ _).alloc (Nat.le_refl _) _) _ | exact ((Below.refl _ _).drew.alloc (Nat.le_refl _) _) | exact ((Below.refl _ _).drew.alloc (Nat.le_refl _) _).drew)) hba; (first | (have ZR := (hca.block _ (Below.lt_of' ZR)).trans ZR) | (have ZR := (hba.block W1.heap.size (by simp)).trans (heap_alloc_new W1 (.cells #[.int .i64 0, .int .i64 0, .int .i64 0, .int .i64 0, .int .i64 0, .int .i64 0, .int .i64 0, .slice none 0 0] 47))) | skip); have Ra := (hca.block w.heap.size (by omega)).trans RW1; have Qa := (hca.block g1 (by omega)).trans QW1; have za := hca.size; (try clear d0 d1 d2 d3 d4); (try clear s0 s1 s2 s3 s4); obtain ⟨d0, d1, d2, d3, d4⟩ := desc_cells Ra; obtain ⟨s0, s1, s2, s3, s4⟩ := desc_cells Qa; have BBa := BW1.trans (hca.mono (by omega)); have CCa := hca; have na0 : wa.heap.size ≠ w.heap.size := (by omega); have na1 : wa.heap.size ≠ g1 := (by omega); have ma0 : w.heap.size ≠ wa.heap.size := (by omega); have ma1 : g1 ≠ wa.heap.size := (by omega); clear hba hca) | (go_at_call 32; refine (h_toState t m r s v _).mono ?_; rintro e wb ⟨rfl, hbb⟩; have hcb : Below wa.heap.size wa wb := Below.from_ (by (first | exact Below.refl _ _ | exact below_drewN (Below.refl _ _) _ | exact (Below.refl _ _).drew | exact (Below.refl _ _).alloc (Nat.le_refl _) _ | exact ((Below.refl _ _).alloc (Nat.le_refl _) _).drew | exact below_drewN ((Below.refl _ _).alloc (Nat.le_refl _) _) _ | exact ((Below.refl _ _).drew.alloc (Nat.le_refl _) _) | exact ((Below.refl _ _).drew.alloc (Nat.le_refl _) _).drew)) hbb; (first | (have ZR := (hcb.block _ (Below.lt_of' ZR)).trans ZR) | (have ZR := (hbb.block wa.heap.size (by simp)).trans (heap_alloc_new wa (.cells #[.int .i64 0, .int .i64 0, .int .i64 0, .int .i64 0, .int .i64 0, .int .i64 0, .int .i64 0, .slice none 0 0] 47))) | skip); have Rb := (hcb.block w.heap.size (by omega)).trans Ra; have Qb := (hcb.block g1 (by omega)).trans Qa; have zb := hcb.size; (try clear d0 d1 d2 d3 d4); (try clear s0 s1 s2 s3 s4); obtain ⟨d0, d1, d2, d3, d4⟩ := desc_cells Rb; obtain ⟨s0, s1, s2, s3, s4⟩ := desc_cells Qb; have BBb := BBa.trans (hcb.mono (by omega)); have CCb := CCa.trans (hcb.mono (by omega)); have nb0 : wb.heap.size ≠ w.heap.size := (by omega); have nb1 : wb.heap.size ≠ g1 := (by omega); have mb0 : w.heap.size ≠ wb.heap.size := (by omega); have mb1 : g1 ≠ wb.heap.size := (by omega); clear hbb hcb) | (go_at_call 33; refine (HI.out _).mono ?_; rintro e wc ⟨vs, rfl, ho, hbc⟩; obtain ⟨Ac, cc, rfl, -, -, -⟩ := ho.form; have hcc : Below wb.heap.size wb wc := Below.from_ (by (first | exact Below.refl _ _ | exact below_drewN (Below.refl _ _) _ | exact (Below.refl _ _).drew | exact (Below.refl _ _).alloc (Nat.le_refl _) _ | exact ((Below.refl _ _).alloc (Nat.le_refl _) _).drew | exact below_drewN ((Below.refl _ _).alloc (Nat.le_refl _) _) _ | exact ((Below.refl _ _).drew.alloc (Nat.le_refl _) _) | exact ((Below.refl _ _).drew.alloc (Nat.le_refl _) _).drew)) hbc; have OC : IOwn wc W1.heap.size (.slice Ac L.length cc) L := IOwn.less_from ho (a := wb) (by (first | exact Below.refl _ _ | exact below_drewN (Below.refl _ _) _ | exact (Below.refl _ _).drew | exact (Below.refl _ _).alloc (Nat.le_refl _) _ | exact ((Below.refl _ _).alloc (Nat.le_refl _) _).drew | exact below_drewN ((Below.refl _ _).alloc (Nat.le_refl _) _) _ | exact ((Below.refl _ _).drew.alloc (Nat.le_refl _) _) | exact ((Below.refl _ _).drew.alloc (Nat.le_refl _) _).drew)) (by omega); (first | (have ZR := (hcc.block _ (Below.lt_of' ZR)).trans ZR) | (have ZR := (hbc.block wb.heap.size (by simp)).trans (heap_alloc_new wb (.cells #[.int .i64 0, .int .i64 0, .int .i64 0, .int .i64 0, .int .i64 0, .int .i64 0, .int .i64 0, .slice none 0 0] 47))) | skip); have Rc := (hcc.block w.heap.size (by omega)).trans Rb; have Qc := (hcc.block g1 (by omega)).trans Qb; have zc := hcc.size; (try clear d0 d1 d2 d3 d4); (try clear s0 s1 s2 s3 s4); obtain ⟨d0, d1, d2, d3, d4⟩ := desc_cells Rc; obtain ⟨s0, s1, s2, s3, s4⟩ := desc_cells Qc; have BBc := BBb.trans (hcc.mono (by omega)); have CCc := CCb.trans (hcc.mono (by omega)); (try (obtain ⟨e0, e1, e2, e3, e4, e5, e6, e7⟩ := fr_cells ZR; have k0 := frozen_of_row _ _ 0 _ _ ZR; have k1 := frozen_of_row _ _ 1 _ _ ZR; have k2 := frozen_of_row _ _ 2 _ _ ZR; have k3 := frozen_of_row _ _ 3 _ _ ZR; have k4 := frozen_of_row _ _ 4 _ _ ZR; have k5 := frozen_of_row _ _ 5 _ _ ZR; have k6 := frozen_of_row _ _ 6 _ _ ZR; have k7 := frozen_of_row _ _ 7 _ _ ZR)); clear ho hbc hcc))
      all_goals (try go_wp2_with fail)
      all_goals go_meet
      all_goals (case rel => first | (have chk := ZR; clear chk; exact ⟨rfl, EmR.mkQ ZR OC Rc Qc (by omega) (by omega) (by omega) CCc BBc (by omega)⟩) | exact ⟨rfl, EmR.mkP OC Rc Qc (by omega) CCc BBc⟩)
    case rest =>
      obtain ⟨W2, hW2⟩ : ∃ W, W = wc := ⟨_, rfl⟩
      subst hW2
      obtain ⟨rfl, g7, A7, c7, rfl, hg7, P7, O7, RW2, QW2, D7, BW2⟩ := hcut
      have P5' := (D7.block g5 zP5).trans P5
      have I5' := I5.below D7
      have zW12 := D7.size
      clear RW1 QW1 BW1 P5 I5 D7
      obtain ⟨-, I7⟩ := O7.intsOf (by omega)
      obtain ⟨c0, c1, c2, c3, c4, c5_, c6, c7_⟩ := fr_cells P7
      obtain ⟨e0, e1, e2, e3, e4, e5, e6, e7⟩ := fr_cells P5'
      go_wp2_with fail
      refine (h_eqFrame K 0 T M R S V _ _ _ _ _ _ L _ _ _ I7 I5' (Nat.le_refl _) (by omega)).mono ?_
      rintro e W3 ⟨rfl, hb⟩
      have P7b := (hb.block g7 (Below.lt_of' P7)).trans P7
      have P5b := (hb.block g5 (Below.lt_of' P5')).trans P5'
      have R3 := (hb.block w.heap.size (Below.lt_of' RW2)).trans RW2
      have Q3 := (hb.block g1 (Below.lt_of' QW2)).trans QW2
      have O7b := O7.below_ hb
      have I5b := I5'.below' (by omega) hb
      have BW3 := BW2.trans (hb.mono BW2.size)
      have zW3 := hb.size
      clear hb P7 P5' RW2 QW2 O7 I5' BW2 I7 c0 c1 c2 c3 c4 c5_ c6 c7_ e0 e1 e2 e3 e4 e5 e6 e7
      obtain ⟨c0, c1, c2, c3, c4, c5_, c6, c7_⟩ := fr_cells P7b
      go_wp2_with fail
      refine (h_markFrame K 0 T M R S V _ _ _ L _ 1 _ O7b (by omega) (by omega) (by omega)).mono ?_
      rintro e W4 ⟨rfl, O7m, hg⟩
      have P7c := (hg.block g7 (Below.lt_of' P7b) (fun h => own_ne_frame O7b P7b h.symm)).trans P7b
      have P5c := (hg.block g5 (Below.lt_of' P5b) (fun h => own_ne_frame O7b P5b h.symm)).trans P5b
      have lt7 := O7b.lt
      have R4 := (hg.block w.heap.size (Below.lt_of' R3) (fun h => by have := lt7 _ h.symm; omega)).trans R3
      have Q4 := (hg.block g1 (Below.lt_of' Q3) (fun h => by have := lt7 _ h.symm; omega)).trans Q3
      have I5c := I5b.grown hg (by omega) (fun k hk => (lt7 k hk).1)
      have BW4 := BW3.trans (grown_below hg BW3.size (fun k hk => by have := lt7 k hk; omega))
      have zW4 : W3.heap.size ≤ W4.heap.size := hg.size
      clear hg lt7 P7b P5b R3 Q3 I5b BW3 O7b c0 c1 c2 c3 c4 c5_ c6 c7_
      obtain ⟨-, I7m⟩ := O7m.intsOf (by rw [marksL_len]; omega)
      rw [marksL_len] at I7m
      obtain ⟨c0, c1, c2, c3, c4, c5_, c6, c7_⟩ := fr_cells P7c
      have hq : decide ((1 : Int) + (L.length : Int) < 0) = false := by simp; omega
      go_wp2_with fail
      refine (h_heldFrame K 0 T M R S V _ _ _ _ 1 _ I7m (Nat.le_refl _) (by omega) (by omega)).mono ?_
      rintro e W5 ⟨rfl, hb⟩
      have P7d := (hb.block g7 (Below.lt_of' P7c)).trans P7c
      have P5d := (hb.block g5 (Below.lt_of' P5c)).trans P5c
      have RW5 := (hb.block w.heap.size (Below.lt_of' R4)).trans R4
      have QW5 := (hb.block g1 (Below.lt_of' Q4)).trans Q4
      have I7d := I7m.below hb
      have I5d := I5c.below' (by omega) hb
      have BW5 := BW4.trans (hb.mono BW4.size)
      have zW5 := hb.size
      have zQ5 := Below.lt_of' QW5
      clear hb P7c P5c R4 Q4 I7m I5c BW4 c0 c1 c2 c3 c4 c5_ c6 c7_ O7m
      go_upto_region 13 with fail
      go_cut [11, 12] from 49 to 56 (fun v5 v6 wx => v6 = .int .i64 C ∧ EmR w W5 W5.heap.size w.heap.size g1 (.cells #[.int .i64 nd, .int .i64 dk, .int .i64 dz, .int .i64 du, .bool ch] 23) (.cells #[.int .i64 t, .int .i64 m, .int .i64 r, .int .i64 s, .int .i64 v] 40) K T M R S V L v5 wx)
      case first =>
        obtain ⟨d0, d1, d2, d3, d4⟩ := desc_cells RW5
        obtain ⟨s0, s1, s2, s3, s4⟩ := desc_cells QW5
        have nw0 : W5.heap.size ≠ w.heap.size := (by omega); have nw1 : W5.heap.size ≠ g1 := (by omega); have mw0 : w.heap.size ≠ W5.heap.size := (by omega); have mw1 : g1 ≠ W5.heap.size := (by omega)
        go_region_held3 (fun w' => w'.cell? ⟨w.heap.size, 0, none⟩ = some (.int .i64 nd) ∧ w'.cell? ⟨w.heap.size, 1, none⟩ = some (.int .i64 dk) ∧ w'.cell? ⟨w.heap.size, 2, none⟩ = some (.int .i64 dz) ∧ w'.cell? ⟨w.heap.size, 3, none⟩ = some (.int .i64 du) ∧ w'.cell? ⟨w.heap.size, 4, none⟩ = some (.bool ch) ∧ w'.cell? ⟨g1, 0, none⟩ = some (.int .i64 t) ∧ w'.cell? ⟨g1, 1, none⟩ = some (.int .i64 m) ∧ w'.cell? ⟨g1, 2, none⟩ = some (.int .i64 r) ∧ w'.cell? ⟨g1, 3, none⟩ = some (.int .i64 s) ∧ w'.cell? ⟨g1, 4, none⟩ = some (.int .i64 v)) (go_keep) (first | (go_at_call 15; refine (h_toDescriptor nd dk dz du ch _).mono ?_; rintro e wa ⟨rfl, hba⟩; have hca : Below W5.heap.size W5 wa := Below.from_ (by (first | exact Below.refl _ _ | exact below_drewN (Below.refl _ _) _ | exact (Below.refl _ _).drew | exact (Below.refl _ _).alloc (Nat.le_refl _) _ | exact ((Below.refl _ _).alloc (Nat.le_refl _) _).drew | exact below_drewN ((Below.refl _ _).alloc (Nat.le_refl _) _) _ | exact ((Below.refl _ _).drew.alloc (Nat.le_refl _) _) | exact ((Below.refl _ _).drew.alloc (Nat.le_refl _) _).drew)) hba; (first | (have ZR := (hca.block _ (Below.lt_of' ZR)).trans ZR) | (have ZR := (hba.block W5.heap.size (by simp)).trans (heap_alloc_new W5 (.cells #[.int .i64 0, .int .i64 0, .int .i64 0, .int .i64 0, .int .i64 0, .int .i64 0, .int .i64 0, .slice none 0 0] 47))) | skip); have Ra := (hca.block w.heap.size (by omega)).trans RW5; have Qa := (hca.block g1 (by omega)).trans QW5; have za := hca.size; (try clear d0 d1 d2 d3 d4); (try clear s0 s1 s2 s3 s4); obtain ⟨d0, d1, d2, d3, d4⟩ := desc_cells Ra; obtain ⟨s0, s1, s2, s3, s4⟩ := desc_cells Qa; have BBa := BW5.trans (hca.mono (by omega)); have CCa := hca; have na0 : wa.heap.size ≠ w.heap.size := (by omega); have na1 : wa.heap.size ≠ g1 := (by omega); have ma0 : w.heap.size ≠ wa.heap.size := (by omega); have ma1 : g1 ≠ wa.heap.size := (by omega); clear hba hca) | (go_at_call 32; refine (h_toState t m r s v _).mono ?_; rintro e wb ⟨rfl, hbb⟩; have hcb : Below wa.heap.size wa wb := Below.from_ (by (first | exact Below.refl _ _ | exact below_drewN (Below.refl _ _) _ | exact (Below.refl _ _).drew | exact (Below.refl _ _).alloc (Nat.le_refl _) _ | exact ((Below.refl _ _).alloc (Nat.le_refl _) _).drew | exact below_drewN ((Below.refl _ _).alloc (Nat.le_refl _) _) _ | exact ((Below.refl _ _).drew.alloc (Nat.le_refl _) _) | exact ((Below.refl _ _).drew.alloc (Nat.le_refl _) _).drew)) hbb; (first | (have ZR := (hcb.block _ (Below.lt_of' ZR)).trans ZR) | (have ZR := (hbb.block wa.heap.size (by simp)).trans (heap_alloc_new wa (.cells #[.int .i64 0, .int .i64 0, .int .i64 0, .int .i64 0, .int .i64 0, .int .i64 0, .int .i64 0, .slice none 0 0] 47))) | skip); have Rb := (hcb.block w.heap.size (by omega)).trans Ra; have Qb := (hcb.block g1 (by omega)).trans Qa; have zb := hcb.size; (try clear d0 d1 d2 d3 d4); (try clear s0 s1 s2 s3 s4); obtain ⟨d0, d1, d2, d3, d4⟩ := desc_cells Rb; obtain ⟨s0, s1, s2, s3, s4⟩ := desc_cells Qb; have BBb := BBa.trans (hcb.mono (by omega)); have CCb := CCa.trans (hcb.mono (by omega)); have nb0 : wb.heap.size ≠ w.heap.size := (by omega); have nb1 : wb.heap.size ≠ g1 := (by omega); have mb0 : w.heap.size ≠ wb.heap.size := (by omega); have mb1 : g1 ≠ wb.heap.size := (by omega); clear hbb hcb) | (go_at_call 33; refine (HI.out _).mono ?_; rintro e wc ⟨vs, rfl, ho, hbc⟩; obtain ⟨Ac, cc, rfl, -, -, -⟩ := ho.form; have hcc : Below wb.heap.size wb wc := Below.from_ (by (first | exact Below.refl _ _ | exact below_drewN (Below.refl _ _) _ | exact (Below.refl _ _).drew | exact (Below.refl _ _).alloc (Nat.le_refl _) _ | exact ((Below.refl _ _).alloc (Nat.le_refl _) _).drew | exact below_drewN ((Below.refl _ _).alloc (Nat.le_refl _) _) _ | exact ((Below.refl _ _).drew.alloc (Nat.le_refl _) _) | exact ((Below.refl _ _).drew.alloc (Nat.le_refl _) _).drew)) hbc; have OC : IOwn wc W5.heap.size (.slice Ac L.length cc) L := IOwn.less_from ho (a := wb) (by (first | exact Below.refl _ _ | exact below_drewN (Below.refl _ _) _ | exact (Below.refl _ _).drew | exact (Below.refl _ _).alloc (Nat.le_refl _) _ | exact ((Below.refl _ _).alloc (Nat.le_refl _) _).drew | exact below_drewN ((Below.refl _ _).alloc (Nat.le_refl _) _) _ | exact ((Below.refl _ _).drew.alloc (Nat.le_refl _) _) | exact ((Below.refl _ _).drew.alloc (Nat.le_refl _) _).drew)) (by omega); (first | (have ZR := (hcc.block _ (Below.lt_of' ZR)).trans ZR) | (have ZR := (hbc.block wb.heap.size (by simp)).trans (heap_alloc_new wb (.cells #[.int .i64 0, .int .i64 0, .int .i64 0, .int .i64 0, .int .i64 0, .int .i64 0, .int .i64 0, .slice none 0 0] 47))) | skip); have Rc := (hcc.block w.heap.size (by omega)).trans Rb; have Qc := (hcc.block g1 (by omega)).trans Qb; have zc := hcc.size; (try clear d0 d1 d2 d3 d4); (try clear s0 s1 s2 s3 s4); obtain ⟨d0, d1, d2, d3, d4⟩ := desc_cells Rc; obtain ⟨s0, s1, s2, s3, s4⟩ := desc_cells Qc; have BBc := BBb.trans (hcc.mono (by omega)); have CCc := CCb.trans (hcc.mono (by omega)); (try (obtain ⟨e0, e1, e2, e3, e4, e5, e6, e7⟩ := fr_cells ZR; have k0 := frozen_of_row _ _ 0 _ _ ZR; have k1 := frozen_of_row _ _ 1 _ _ ZR; have k2 := frozen_of_row _ _ 2 _ _ ZR; have k3 := frozen_of_row _ _ 3 _ _ ZR; have k4 := frozen_of_row _ _ 4 _ _ ZR; have k5 := frozen_of_row _ _ 5 _ _ ZR; have k6 := frozen_of_row _ _ 6 _ _ ZR; have k7 := frozen_of_row _ _ 7 _ _ ZR)); clear ho hbc hcc))
        all_goals (try go_wp2_with fail)
        all_goals go_meet
        all_goals (case rel => first | (have chk := ZR; clear chk; exact ⟨rfl, EmR.mkQ ZR OC Rc Qc (by omega) (by omega) (by omega) CCc BBc (by omega)⟩) | exact ⟨rfl, EmR.mkP OC Rc Qc (by omega) CCc BBc⟩)
      case rest =>
        obtain ⟨W6, hW6⟩ : ∃ W, W = wc := ⟨_, rfl⟩
        subst hW6
        obtain ⟨rfl, g11, A11, c11, rfl, hg11, P11, O11, RW6, QW6, D11, BW6⟩ := hcut
        have P7e := (D11.block g7 (Below.lt_of' P7d)).trans P7d
        have P5e := (D11.block g5 (Below.lt_of' P5d)).trans P5d
        have I7e := I7d.below' (by omega) D11
        have I5e := I5d.below' (by omega) D11
        have zW6 := D11.size
        clear RW5 QW5 BW5 P7d P5d I7d I5d D11 RW6 QW6
        obtain ⟨-, I11⟩ := O11.intsOf (by omega)
        obtain ⟨c0, c1, c2, c3, c4, c5_, c6, c7_⟩ := fr_cells P11
        obtain ⟨e0, e1, e2, e3, e4, e5, e6, e7⟩ := fr_cells P5e
        go_wp2_with fail
        refine (h_eqFrame K 0 T M R S V _ _ _ _ _ _ L _ _ _ I11 I5e (Nat.le_refl _) (by omega)).mono ?_
        rintro e W7 ⟨rfl, hb⟩
        have P7f := (hb.block g7 (Below.lt_of' P7e)).trans P7e
        have I7f := I7e.below' (by omega) hb
        have BW7 := BW6.trans (hb.mono BW6.size)
        have zW7 := hb.size
        clear hb P11 P5e P7e I7e I5e I11 O11 BW6 c0 c1 c2 c3 c4 c5_ c6 c7_ e0 e1 e2 e3 e4 e5 e6 e7
        obtain ⟨c0, c1, c2, c3, c4, c5_, c6, c7_⟩ := fr_cells P7f
        go_wp2_with fail
        refine (h_heldFrame K 0 T M R S V _ _ _ _ 1 _ I7f (by omega) (by omega) (by omega)).mono ?_
        rintro e W8 ⟨rfl, hb⟩
        go_wp2
        go_ret
        exact ⟨rfl, BW7.trans (hb.mono BW7.size)⟩
theorem efL_len {c dz : Int} (h : c = 0 → 0 ≤ dz ∧ dz ≤ 32) : (efL c dz).length ≤ 1000 := by
  unfold efL; split
  · rename_i hc; have := h hc; simp; omega
  · simp
theorem w_EmptyFrame (nd dk dz du : Int) (ch : Bool) (t m r s v : Int) (w : World) (q0 : (Lit.int .i64 nd).wf = true) (q1 : (Lit.int .i64 dk).wf = true) (q2 : (Lit.int .i64 dz).wf = true) (q3 : (Lit.int .i64 du).wf = true) (q4 : (Lit.int .i64 t).wf = true) (q5 : (Lit.int .i64 m).wf = true) (q6 : (Lit.int .i64 r).wf = true) (q7 : (Lit.int .i64 s).wf = true) (q8 : (Lit.int .i64 v).wf = true) :
    Calls Try.prog 7 #[.agg #[.int .i64 nd, .int .i64 dk, .int .i64 dz, .int .i64 du, .bool ch], .agg #[.int .i64 t, .int .i64 m, .int .i64 r, .int .i64 s, .int .i64 v]] w fun e w' => e = .returned (.bool true) ∧ Below w.heap.size w w' :=
  w_EmptyFrame_ nd dk dz du ch t m r s v _ _ _ _ _ _ _ (efL (efC nd dk dz du ch t m r s v) dz) (efL_len (fun h => by
    cases hd : descOk nd dk dz du ch
    · simp [efC, hd] at h
    · exact desc_dz hd)) (fun w => s_EmptyFrame nd dk dz du ch t m r s v w) (fun w => i_EmptyFrame nd dk dz du ch t m r s v w) w
end Go.Proofs.Ytecelofoffdjlaa

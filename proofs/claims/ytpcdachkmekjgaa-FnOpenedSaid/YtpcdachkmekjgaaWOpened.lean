/- The walk of the law on opened frames. -/
import Derived.Test.YtpcdachkmekjgaaDrawJ
import Derived.Test.YtpcdachkmekjgaaSeal3
import Derived.Test.YtpcdachkmekjgaaPSeal
import Derived.Test.YtpcdachkmekjgaaOFT
import Derived.BigRegion
import Derived.Deep.RegionHeld3
import Derived.Deep.RegionLaw
namespace Go.Proofs.Ytpcdachkmekjgaa
open Go.RowKit
set_option linter.unusedSimpArgs false
set_option linter.unusedVariables false
theorem IOwn.fiveB {w : World} {base : Nat} {v : Value} {xs : List Int} (h : IOwn w base v xs) {g : Nat} (hg : g < base) (v0 v1 v2 v3 v4 : Value) :
    IOwn (((((w.setCell ⟨g, 0, none⟩ v0).setCell ⟨g, 1, none⟩ v1).setCell ⟨g, 2, none⟩ v2).setCell ⟨g, 3, none⟩ v3).setCell ⟨g, 4, none⟩ v4) base v xs :=
  ((((h.setB hg _).setB hg _).setB hg _).setB hg _).setB hg _
theorem IOwn.ints2 {w : World} {base n c : Nat} {A : Option Addr} {xs : List Int} (h : IOwn w base (.slice A n c) xs) (hn : xs.length = n) (hs : n ≤ 16777216) : IntsAt w w.heap.size A n c xs := by
  subst hn
  exact h.intsO hs
/-- The result's state box and the drawn state's box. -/
structure DO (w : World) (gS bS : Nat) (o0 o1 o2 o3 o4 : Value) (T M R S V : Int) (W : World) : Prop where
  rs : W.heap[gS]? = some (.cells #[o0, o1, o2, o3, o4] 30 (0, 0))
  rb : W.heap[bS]? = some (.cells #[.int .i64 T, .int .i64 M, .int .i64 R, .int .i64 S, .int .i64 V] 30 (0, 0))
  bel : Below w.heap.size w W
section
variable {w W : World} {gS bS g : Nat} {o0 o1 o2 o3 o4 : Value} {T M R S V : Int}
theorem DO.next (h : DO w gS bS o0 o1 o2 o3 o4 T M R S V W) (h1 : g ≠ gS) (h2 : g ≠ bS) (h3 : w.heap.size ≤ g) {W' : World} (g' : W.grownBy W' (some g)) : DO w gS bS o0 o1 o2 o3 o4 T M R S V W' :=
  ⟨zkeep h.rs g' h1, zkeep h.rb g' h2, h.bel.trans (grown_below g' h.bel.size (fun q hq => by injection hq with hq; omega))⟩
theorem DO.below (h : DO w gS bS o0 o1 o2 o3 o4 T M R S V W) {W' : World} (b : Below W.heap.size W W') : DO w gS bS o0 o1 o2 o3 o4 T M R S V W' :=
  ⟨(b.block gS (Below.ltK h.rs)).trans h.rs, (b.block bS (Below.ltK h.rb)).trans h.rb, h.bel.trans (b.mono h.bel.size)⟩
theorem DO.drewN (h : DO w gS bS o0 o1 o2 o3 o4 T M R S V W) (k : Nat) : DO w gS bS o0 o1 o2 o3 o4 T M R S V (W.drewN k) := ⟨h.rs, h.rb, below_drewN h.bel k⟩
theorem DO.setO (h : DO w gS bS o0 o1 o2 o3 o4 T M R S V W) {ob k : Nat} (h1 : gS ≠ ob) (h2 : bS ≠ ob) (h3 : w.heap.size ≤ ob) (v : Value) : DO w gS bS o0 o1 o2 o3 o4 T M R S V (W.setCell ⟨ob, k, none⟩ v) :=
  ⟨(heap_setCell_other _ _ _ _ (by show gS ≠ ob; exact h1)).trans h.rs, (heap_setCell_other _ _ _ _ (by show bS ≠ ob; exact h2)).trans h.rb, h.bel.setCell h3 v⟩
theorem DO.setS (h : DO w gS bS o0 o1 o2 o3 o4 T M R S V W) (hn : bS ≠ gS) (hw : w.heap.size ≤ gS) (v0 v1 v2 v3 v4 : Value) :
    DO w gS bS v0 v1 v2 v3 v4 T M R S V (((((W.setCell ⟨gS, 0, none⟩ v0).setCell ⟨gS, 1, none⟩ v1).setCell ⟨gS, 2, none⟩ v2).setCell ⟨gS, 3, none⟩ v3).setCell ⟨gS, 4, none⟩ v4) :=
  ⟨five_heap5 h.rs, (five_other' hn).trans h.rb, below_five5 h.bel hw⟩
end
def DrewOpen (w : World) (e : Ending) (w' : World) : Prop := ∃ (A : Option Addr) (n c : Nat) (xs : List Int) (id T M R S V : Int),
  e = .returned (.tuple #[.slice A n c, .int .i64 id, .agg #[.int .i64 T, .int .i64 M, .int .i64 R, .int .i64 S, .int .i64 V]]) ∧ IntsAt w' w'.heap.size A n c xs ∧ Below w.heap.size w w'
theorem seal_fit {k q t m r s v : Int} {xs : List Int} {id T M R S V : Int} (h : slC (frOk k q t m r s v xs) (stOk T M R S V) id = 0) :
    (sealL k q t m r s v xs id T M R S V).length ≤ 1000 ∧ 4 ≤ (sealL k q t m r s v xs id T M R S V).length ∧ 0 ≤ id ∧ id ≤ 16777215 ∧ stOk T M R S V = true := by
  obtain ⟨h1, h2, h3⟩ := slC_zero h
  have hb := body_small h1
  have hid := idOk_bd h3
  have hp : 0 < (bodyL k q t m r s v xs).length := by simp [bodyL]
  have hl : (sealL k q t m r s v xs id T M R S V).length = (bodyL k q t m r s v xs).length + 3 := by simp [sealL, three]
  exact ⟨by omega, by omega, hid.1, hid.2, h2⟩
set_option maxHeartbeats 8000000 in
theorem s_DrawOpenFrame (A : Option Addr) (n c : Nat) (bs : List Int) (B : Nat) (w : World) (h : BytesAt w B A n c bs) (hB : B ≤ w.heap.size) :
    Calls Try.prog 47 #[.slice A n c] w (DrewOpen w) := by
  have RS := heap_alloc_new w (.cells #[.int .i64 0, .int .i64 0, .int .i64 0, .int .i64 0, .int .i64 0] 30)
  have B0 := (Below.refl w.heap.size w).alloc (Nat.le_refl _) (.cells #[.int .i64 0, .int .i64 0, .int .i64 0, .int .i64 0, .int .i64 0] 30)
  have h0 := h.below' hB B0
  have z0 := Below.ltK RS
  go_enter Try.func47, Try.ntmps47
  go_upto_region 1 with fail
  obtain ⟨gS, hgS⟩ : ∃ gS, gS = w.heap.size := ⟨_, rfl⟩
  rw [← hgS] at RS z0
  rw [← hgS]
  have hwS : w.heap.size ≤ gS := by omega
  have hwS2 : gS ≤ w.heap.size := by omega
  clear hgS
  generalize w.alloc _ = W0 at *
  go_wp2_with fail
  refine (s_l01From _ _ _ _ B _ h0 (by omega)).mono ?_
  rintro e w1 ⟨g, rfl, S1, hgl, hb⟩
  have RS1 := (hb.block gS (by omega)).trans RS
  have B1 := B0.trans (hb.mono (by omega))
  have z1 := hb.size
  have y1 := S1.lt
  have h1 := h0.below' (by omega) hb
  clear RS B0 h0 h hb
  go_wp2_with fail
  refine (s_DrawSealFrame _ _ _ _ B _ h1 (by omega)).mono ?_
  rintro e w2 ⟨k, q, t, m, r, s, v, A2, c2, xs, id, T, M, R, S, V, rfl, hx, I2, b2⟩
  have RS2 := (b2.block gS (by omega)).trans RS1
  have S2 := S1.below b2
  have B2 := B1.trans (b2.mono (by omega))
  have z2 := b2.size
  obtain ⟨RF, RX⟩ := two_new w2 (.cells #[.int .i64 k, .int .i64 q, .int .i64 t, .int .i64 m, .int .i64 r, .int .i64 s, .int .i64 v, .slice A2 xs.length c2] 32) (.cells #[.int .i64 T, .int .i64 M, .int .i64 R, .int .i64 S, .int .i64 V] 30)
  have zA : w2.heap.size + 2 = ((w2.alloc (.cells #[.int .i64 k, .int .i64 q, .int .i64 t, .int .i64 m, .int .i64 r, .int .i64 s, .int .i64 v, .slice A2 xs.length c2] 32)).alloc (.cells #[.int .i64 T, .int .i64 M, .int .i64 R, .int .i64 S, .int .i64 V] 30)).heap.size := by simp
  have D3 : DO w gS (w2.heap.size + 1) _ _ _ _ _ T M R S V ((w2.alloc (.cells #[.int .i64 k, .int .i64 q, .int .i64 t, .int .i64 m, .int .i64 r, .int .i64 s, .int .i64 v, .slice A2 xs.length c2] 32)).alloc (.cells #[.int .i64 T, .int .i64 M, .int .i64 R, .int .i64 S, .int .i64 V] 30)) :=
    ⟨(Below.heap_alloc _ (.cells #[.int .i64 T, .int .i64 M, .int .i64 R, .int .i64 S, .int .i64 V] 30) gS (by simp; omega)).trans ((Below.heap_alloc w2 (.cells #[.int .i64 k, .int .i64 q, .int .i64 t, .int .i64 m, .int .i64 r, .int .i64 s, .int .i64 v, .slice A2 xs.length c2] 32) gS (by omega)).trans RS2), RX, (B2.alloc (by omega) (.cells #[.int .i64 k, .int .i64 q, .int .i64 t, .int .i64 m, .int .i64 r, .int .i64 s, .int .i64 v, .slice A2 xs.length c2] 32)).alloc (by simp; omega) (.cells #[.int .i64 T, .int .i64 M, .int .i64 R, .int .i64 S, .int .i64 V] 30)⟩
  have S3 := (S2.alloc (.cells #[.int .i64 k, .int .i64 q, .int .i64 t, .int .i64 m, .int .i64 r, .int .i64 s, .int .i64 v, .slice A2 xs.length c2] 32)).alloc (.cells #[.int .i64 T, .int .i64 M, .int .i64 R, .int .i64 S, .int .i64 V] 30)
  have I3 := (I2.alloc (Nat.le_refl _) (.cells #[.int .i64 k, .int .i64 q, .int .i64 t, .int .i64 m, .int .i64 r, .int .i64 s, .int .i64 v, .slice A2 xs.length c2] 32)).alloc (by simp) (.cells #[.int .i64 T, .int .i64 M, .int .i64 R, .int .i64 S, .int .i64 V] 30)
  clear RS1 B1 S1 b2 RS2 B2 S2 RX I2 h1
  go_upto_region 3 with fail
  generalize hW3 : World.alloc _ _ = W3 at *
  generalize w2.heap.size = bF at *
  obtain ⟨bS, hbS⟩ : ∃ bS, bS = bF + 1 := ⟨_, rfl⟩
  rw [← hbS] at D3
  rw [← hbS]
  have hbS1 : bS ≤ bF + 1 := by omega
  have hbS2 : bF + 1 ≤ bS := by omega
  clear hbS
  have HSS := Lib.hid (fun B W h hB => s_SealFrame k q t m r s v A2 xs.length c2 xs id T M R S V B W h hB)
  have HALL := Lib.hid (@seal_fit k q t m r s v xs id T M R S V)
  have hLn : (if slC (frOk k q t m r s v xs) (stOk T M R S V) id = 0 then sealL k q t m r s v xs id T M R S V else []).length ≤ 1000 := by
    split
    · rename_i h; exact (seal_fit h).1
    · simp
  have HL := Lib.hid (fun h : slC (frOk k q t m r s v xs) (stOk T M R S V) id = 0 => (if_pos h : (if slC (frOk k q t m r s v xs) (stOk T M R S V) id = 0 then sealL k q t m r s v xs id T M R S V else []) = _))
  generalize (if slC (frOk k q t m r s v xs) (stOk T M R S V) id = 0 then sealL k q t m r s v xs id T M R S V else []) = L at *
  generalize slC (frOk k q t m r s v xs) (stOk T M R S V) id = C at *
  generalize sealL k q t m r s v xs id T M R S V = L' at *
  obtain ⟨c0, c1', c2', c3, c4, c5, c6, c7⟩ := fr_cells RF
  obtain ⟨d0, d1, d2, d3, d4⟩ := desc_cells D3.rb
  go_wp2_with fail
  refine (HSS.out _ _ I3 (by omega)).mono ?_
  rintro e w4 ⟨u4, rfl, o4, b4⟩
  have z4 := b4.size
  have S4 := S3.below b4
  have D4 := D3.below b4
  obtain ⟨Ao, co, rfl, -, -, -⟩ := o4.form
  have hw2 : W3.heap.size ≤ w4.heap.size := z4
  have hgb : g < W3.heap.size := by omega
  have hg1 : g ≠ gS := by omega
  have hg2 : g ≠ bS := by omega
  have hg3 : w.heap.size ≤ g := by omega
  have nS : bS ≠ gS := by omega
  have nS' : gS ≠ bS := by omega
  have hbw : bS < W3.heap.size := by omega
  have hgw : gS < W3.heap.size := by omega
  have hne : (Value.slice Ao L.length co).ownBlock ≠ some g := own_ne' o4 hgb
  clear S3 D3 I3 RF b4 HSS c0 c1' c2' c3 c4 c5 c6 c7 d0 d1 d2 d3 d4 hW3
  by_cases hC : C = 0
  · subst hC
    obtain ⟨-, hL4, hid0, hid1, hst⟩ := HALL.out rfl
    have hLL := HL.out rfl
    subst hLL
    have HST := Lib.hid hst
    clear HALL HL hst
    have hL4' : (4 : Int) ≤ (L.length : Int) := by omega
    have hco := (o4.intsO (by omega)).le
    go_wp2_with fail
    refine (s_l01Next g B 16 _ S4).mono ?_
    rintro e w5 ⟨r5, rfl, _, _, S5, g5⟩
    have D5 := D4.next hg1 hg2 hg3 g5
    have o5 := o4.kept g5 (.inr hne)
    have z5 := g5.size
    clear S4 D4 o4 g5
    cases hr5 : (r5 == 0)
    · go_wp2_with fail
      refine (s_l01Next g B 8 _ S5).mono ?_
      rintro e w6 ⟨y, rfl, _, _, S6, g6⟩
      have D6 := D5.next hg1 hg2 hg3 g6
      have o6 := o5.kept g6 (.inr hne)
      have z6 := g6.size
      clear S5 D5 o5 g6
      obtain ⟨d0, d1, d2, d3, d4⟩ := desc_cells D6.rb
      cases y0 : (y == 0)
      · cases y1 : (y == 1)
        · cases y2 : (y == 2)
          · cases y3 : (y == 3)
            · cases y4 : (y == 4)
              · go_upto_region 19 with fail
                obtain ⟨n0, n1, n2, n3, n4⟩ := desc_cells D6.rs
                have j0 := frozen_of_row _ _ 0 _ _ D6.rs
                have j1 := frozen_of_row _ _ 1 _ _ D6.rs
                have j2 := frozen_of_row _ _ 2 _ _ D6.rs
                have j3 := frozen_of_row _ _ 3 _ _ D6.rs
                have j4 := frozen_of_row _ _ 4 _ _ D6.rs
                have HF := Lib.hid (D6.setS nS hwS (.int .i64 T) (.int .i64 M) (.int .i64 R) (.int .i64 S) (.int .i64 V))
                have HO := Lib.hid (IOwn.fiveB o6 (g := gS) (by omega) (.int .i64 T) (.int .i64 M) (.int .i64 R) (.int .i64 S) (.int .i64 V))
                go_region_held3 (fun w' => w'.cell? ⟨bS, 0, none⟩ = some (.int .i64 T) ∧ w'.cell? ⟨bS, 1, none⟩ = some (.int .i64 M) ∧ w'.cell? ⟨bS, 2, none⟩ = some (.int .i64 R) ∧ w'.cell? ⟨bS, 3, none⟩ = some (.int .i64 S) ∧ w'.cell? ⟨bS, 4, none⟩ = some (.int .i64 V)) (go_keep) (fail)
                go_wp2
                have F := HF.out; have O := HO.out
                clear HF HO
                revert F O
                generalize World.setCell _ _ _ = WF
                intro F O
                obtain ⟨s0, s1, s2, s3, s4⟩ := desc_cells F.rs
                exact bodyPost_ret (v := .tuple #[.slice Ao L.length co, .int .i64 id, .agg #[.int .i64 T, .int .i64 M, .int .i64 R, .int .i64 S, .int .i64 V]]) (by simp [results, Try.results47, go_sem, s0, s1, s2, s3, s4]) rfl ⟨_, _, _, L, _, _, _, _, _, _, rfl, (F.drewN 1 |> fun _ => (O.intsO (by omega)).drewN 1), (F.drewN 1).bel⟩
              · go_wp2_with fail
                refine (s_l01Next g B 256 _ S6).mono ?_
                rintro e w7 ⟨r1, rfl, r10, r11, S7, g7⟩
                have D7 := D6.next hg1 hg2 hg3 g7
                have z7 := g7.size
                clear S6 D6 g7 o6 d0 d1 d2 d3 d4
                go_wp2_with fail
                refine (s_l01Next g B 256 _ S7).mono ?_
                rintro e w8 ⟨r2, rfl, r20, r21, S8, g8⟩
                have D8 := D7.next hg1 hg2 hg3 g8
                have z8 := g8.size
                clear S7 D7 g8 S8
                have ow : IOwn (w8.alloc (.cells #[.int .i64 r1, .int .i64 r2] 2)) W3.heap.size (.slice (some ⟨w8.heap.size, 0, none⟩) 2 2) [r1, r2] := lit_own w8 [r1, r2] W3.heap.size (by omega) (by simp)
                have RB := heap_alloc_new w8 (.cells #[.int .i64 r1, .int .i64 r2] 2)
                have Db := D8.below ((Below.refl _ _).alloc (Nat.le_refl _) (.cells #[.int .i64 r1, .int .i64 r2] 2))
                clear D8
                go_upto_region 17 with fail
                generalize w8.alloc _ = W8 at *
                obtain ⟨b9, hb9⟩ : ∃ b, b = w8.heap.size := ⟨_, rfl⟩
                rw [← hb9] at ow RB
                rw [← hb9]
                have hb91 : w8.heap.size ≤ b9 := by omega
                clear hb9
                have yb := Below.ltK RB
                have rc := cell_of_row _ _ 0 _ _ _ RB
                have Ib : IntsAt W8 W8.heap.size (some ⟨b9, 0, none⟩) 2 2 [r1, r2] := ow.intsO (by simp)
                have r12 : r1 ≤ 255 := by omega
                have r22 : r2 ≤ 255 := by omega
                have hq64 : IntKind.i64.wrap (r1.tdiv 64) = r1 / 64 := IntWalk.i64_quo _ _ (by omega)
                have hbm : ∀ x ∈ [r1, r2], 0 ≤ x ∧ x ≤ 255 := by
                  intro x hx'
                  simp at hx'
                  rcases hx' with rfl | rfl <;> omega
                have hidk : idOk id = true := by simp [idOk]; omega
                have HK := Lib.hid (fun B W h hB => s_check2 (r1 / 64) (some ⟨b9, 0, none⟩) 2 2 [r1, r2] id T M R S V B W h hB hbm (by omega) hidk HST.out)
                have hlt := chkN_lt (r1 / 64) [r1, r2] id.toNat T M R S V (by omega)
                generalize chkN (r1 / 64) [r1, r2] id.toNat T M R S V = N at *
                clear hbm hidk r11 r21
                obtain ⟨d0, d1, d2, d3, d4⟩ := desc_cells Db.rb
                go_region_held3 (fun w' => w'.cell? ⟨bS, 0, none⟩ = some (.int .i64 T) ∧ w'.cell? ⟨bS, 1, none⟩ = some (.int .i64 M) ∧ w'.cell? ⟨bS, 2, none⟩ = some (.int .i64 R) ∧ w'.cell? ⟨bS, 3, none⟩ = some (.int .i64 S) ∧ w'.cell? ⟨bS, 4, none⟩ = some (.int .i64 V) ∧ w'.cell? ⟨b9, 0, none⟩ = some (.int .i64 r1)) (go_keep) (first | (go_at_call 61; refine (HK.out _ _ (by first | exact Ib | exact Ib.drewN 1) (Nat.le_refl _)).mono ?_; rintro e w10 ⟨rfl, b10⟩; have z10 : W8.heap.size ≤ w10.heap.size := b10.size; have D10 := DO.below (by first | exact Db | exact Db.drewN 1) b10; have o10 := IOwn.below_ (by first | exact ow | exact ow.drewN 1) b10; have rc10 := cell_of_row _ _ 0 _ _ _ ((b10.block b9 yb).trans RB); clear d0 d1 d2 d3 d4 rc; obtain ⟨d0, d1, d2, d3, d4⟩ := desc_cells D10.rb; clear b10))
                go_upto_region 18 with fail
                have lS9 : bS < w10.heap.size := by have := Below.ltK D10.rb; omega
                have nS9 : bS ≠ w10.heap.size := by omega
                go_region_law (first | (refine step_app rfl _ _ 24 rfl W3.heap.size Try.underlying24 int_info _ [r1, r2] rfl ((o10.alloc _).drewN 1) _ _ 3 3 [IntKind.i64.wrap ((N : Int) / 65536), (IntKind.i64.wrap ((N : Int) / 256)).tmod 256, (N : Int) % 256] rfl ((lit_ints w10 [IntKind.i64.wrap ((N : Int) / 65536), (IntKind.i64.wrap ((N : Int) / 256)).tmod 256, (N : Int) % 256] 2 (by simp)).drewN 1) (by simp) (show W3.heap.size ≤ (w10.alloc _).heap.size by rw [World.size_alloc]; omega) ?_; intro v5 wx O5 g5 _; have b5 := app_below ((o10.alloc _).drewN 1) g5 (show W3.heap.size ≤ (w10.alloc _).heap.size by rw [World.size_alloc]; omega); have Dx : DO w gS bS _ _ _ _ _ T M R S V wx := ⟨(b5.block gS hgw).trans ((Below.heap_alloc w10 _ gS (Below.ltK D10.rs)).trans D10.rs), (b5.block bS hbw).trans ((Below.heap_alloc w10 _ bS (Below.ltK D10.rb)).trans D10.rb), ((D10.bel.alloc D10.bel.size _).drew).trans (b5.mono (by omega))⟩; generalize hys : [r1, r2] ++ [IntKind.i64.wrap ((N : Int) / 65536), (IntKind.i64.wrap ((N : Int) / 256)).tmod 256, (N : Int) % 256] = ys at O5; have hyl : ys.length ≤ 10 := (by rw [← hys]; simp); clear hys; obtain ⟨A5, c5, rfl, -, -, -⟩ := O5.form; clear d0 d1 d2 d3 d4 g5 b5; obtain ⟨d0, d1, d2, d3, d4⟩ := desc_cells Dx.rb; obtain ⟨n0, n1, n2, n3, n4⟩ := desc_cells Dx.rs; have j0 := frozen_of_row _ _ 0 _ _ Dx.rs; have j1 := frozen_of_row _ _ 1 _ _ Dx.rs; have j2 := frozen_of_row _ _ 2 _ _ Dx.rs; have j3 := frozen_of_row _ _ 3 _ _ Dx.rs; have j4 := frozen_of_row _ _ 4 _ _ Dx.rs; have HF := Lib.hid (Dx.setS nS hwS (.int .i64 T) (.int .i64 M) (.int .i64 R) (.int .i64 S) (.int .i64 V)); have HO := Lib.hid (IOwn.fiveB O5 (g := gS) (by omega) (.int .i64 T) (.int .i64 M) (.int .i64 R) (.int .i64 S) (.int .i64 V)); clear Dx O5) | (refine step_app rfl _ _ 24 rfl W3.heap.size Try.underlying24 int_info _ [r1, r2] rfl ((o10.alloc _).drewN 1) _ _ 3 3 [IntKind.i64.wrap ((N : Int) / 65536), (IntKind.i64.wrap ((N : Int) / 256)).tmod 256, (N : Int).tmod 256] rfl ((lit_ints w10 [IntKind.i64.wrap ((N : Int) / 65536), (IntKind.i64.wrap ((N : Int) / 256)).tmod 256, (N : Int).tmod 256] 2 (by simp)).drewN 1) (by simp) (show W3.heap.size ≤ (w10.alloc _).heap.size by rw [World.size_alloc]; omega) ?_; intro v5 wx O5 g5 _; have b5 := app_below ((o10.alloc _).drewN 1) g5 (show W3.heap.size ≤ (w10.alloc _).heap.size by rw [World.size_alloc]; omega); have Dx : DO w gS bS _ _ _ _ _ T M R S V wx := ⟨(b5.block gS hgw).trans ((Below.heap_alloc w10 _ gS (Below.ltK D10.rs)).trans D10.rs), (b5.block bS hbw).trans ((Below.heap_alloc w10 _ bS (Below.ltK D10.rb)).trans D10.rb), ((D10.bel.alloc D10.bel.size _).drew).trans (b5.mono (by omega))⟩; generalize hys : [r1, r2] ++ [IntKind.i64.wrap ((N : Int) / 65536), (IntKind.i64.wrap ((N : Int) / 256)).tmod 256, (N : Int).tmod 256] = ys at O5; have hyl : ys.length ≤ 10 := (by rw [← hys]; simp); clear hys; obtain ⟨A5, c5, rfl, -, -, -⟩ := O5.form; clear d0 d1 d2 d3 d4 g5 b5; obtain ⟨d0, d1, d2, d3, d4⟩ := desc_cells Dx.rb; obtain ⟨n0, n1, n2, n3, n4⟩ := desc_cells Dx.rs; have j0 := frozen_of_row _ _ 0 _ _ Dx.rs; have j1 := frozen_of_row _ _ 1 _ _ Dx.rs; have j2 := frozen_of_row _ _ 2 _ _ Dx.rs; have j3 := frozen_of_row _ _ 3 _ _ Dx.rs; have j4 := frozen_of_row _ _ 4 _ _ Dx.rs; have HF := Lib.hid (Dx.setS nS hwS (.int .i64 T) (.int .i64 M) (.int .i64 R) (.int .i64 S) (.int .i64 V)); have HO := Lib.hid (IOwn.fiveB O5 (g := gS) (by omega) (.int .i64 T) (.int .i64 M) (.int .i64 R) (.int .i64 S) (.int .i64 V)); clear Dx O5))
                all_goals
                  go_wp2
                  have F := HF.out; have O := HO.out
                  clear HF HO
                  revert F O
                  generalize World.setCell _ _ _ = WF
                  intro F O
                  obtain ⟨s0, s1, s2, s3, s4⟩ := desc_cells F.rs
                  exact bodyPost_ret (v := .tuple #[.slice A5 ys.length c5, .int .i64 id, .agg #[.int .i64 T, .int .i64 M, .int .i64 R, .int .i64 S, .int .i64 V]]) (by simp [results, Try.results47, go_sem, s0, s1, s2, s3, s4]) rfl ⟨_, _, _, ys, _, _, _, _, _, _, rfl, O.intsO (by omega), (F).bel⟩
            · go_upto_region 14 with fail
              go_region_held3 (fun w' => w'.cell? ⟨bS, 0, none⟩ = some (.int .i64 T) ∧ w'.cell? ⟨bS, 1, none⟩ = some (.int .i64 M) ∧ w'.cell? ⟨bS, 2, none⟩ = some (.int .i64 R) ∧ w'.cell? ⟨bS, 3, none⟩ = some (.int .i64 S) ∧ w'.cell? ⟨bS, 4, none⟩ = some (.int .i64 V)) (go_keep) (first | (go_at_call 85; refine (s_l01Next g B 5 _ (by first | exact S6 | exact S6.drewN 1)).mono ?_; rintro e w9 ⟨p0, rfl, p1, p2, S9, g9⟩; obtain ⟨p, rfl⟩ := nat_of' p0 p1; have hp5 : (p : Int) < 5 := (by omega); have hp0 : (0 : Int) ≤ (p : Int) := (by omega); have hpc : (p : Int) ≤ (co : Int) := (by omega); have D9 := DO.next (by first | exact D6 | exact D6.drewN 1) hg1 hg2 hg3 g9; have o9 := IOwn.kept (by first | exact o6 | exact o6.drewN 1) g9 (.inr hne); obtain ⟨d0, d1, d2, d3, d4⟩ := desc_cells D9.rb; obtain ⟨n0, n1, n2, n3, n4⟩ := desc_cells D9.rs; have j0 := frozen_of_row _ _ 0 _ _ D9.rs; have j1 := frozen_of_row _ _ 1 _ _ D9.rs; have j2 := frozen_of_row _ _ 2 _ _ D9.rs; have j3 := frozen_of_row _ _ 3 _ _ D9.rs; have j4 := frozen_of_row _ _ 4 _ _ D9.rs; have HF := Lib.hid (D9.setS nS hwS (.int .i64 T) (.int .i64 M) (.int .i64 R) (.int .i64 S) (.int .i64 V)); have HO := Lib.hid (IOwn.fiveB o9 (g := gS) (by omega) (.int .i64 T) (.int .i64 M) (.int .i64 R) (.int .i64 S) (.int .i64 V)); clear S9 g9 D9 o9 p2))
              go_wp2
              have F := HF.out; have O := HO.out
              clear HF HO
              revert F O
              generalize World.setCell _ _ _ = WF
              intro F O
              obtain ⟨s0, s1, s2, s3, s4⟩ := desc_cells F.rs
              exact bodyPost_ret (v := .tuple #[.slice Ao p co, .int .i64 id, .agg #[.int .i64 T, .int .i64 M, .int .i64 R, .int .i64 S, .int .i64 V]]) (by simp [results, Try.results47, go_sem, s0, s1, s2, s3, s4]) rfl ⟨_, _, _, _, _, _, _, _, _, _, rfl, (O.intsO (by omega)).cutTo p (by omega), (F).bel⟩
          · have hidw : IntKind.i64.wrap (id + 1) = id + 1 := IntWalk.i64_in _ (by omega)
            go_upto_region 12 with fail
            obtain ⟨n0, n1, n2, n3, n4⟩ := desc_cells D6.rs
            have j0 := frozen_of_row _ _ 0 _ _ D6.rs
            have j1 := frozen_of_row _ _ 1 _ _ D6.rs
            have j2 := frozen_of_row _ _ 2 _ _ D6.rs
            have j3 := frozen_of_row _ _ 3 _ _ D6.rs
            have j4 := frozen_of_row _ _ 4 _ _ D6.rs
            have HF := Lib.hid (D6.setS nS hwS (.int .i64 T) (.int .i64 M) (.int .i64 R) (.int .i64 S) (.int .i64 V))
            have HO := Lib.hid (IOwn.fiveB o6 (g := gS) (by omega) (.int .i64 T) (.int .i64 M) (.int .i64 R) (.int .i64 S) (.int .i64 V))
            go_region_held3 (fun w' => w'.cell? ⟨bS, 0, none⟩ = some (.int .i64 T) ∧ w'.cell? ⟨bS, 1, none⟩ = some (.int .i64 M) ∧ w'.cell? ⟨bS, 2, none⟩ = some (.int .i64 R) ∧ w'.cell? ⟨bS, 3, none⟩ = some (.int .i64 S) ∧ w'.cell? ⟨bS, 4, none⟩ = some (.int .i64 V)) (go_keep) (fail)
            go_wp2
            have F := HF.out; have O := HO.out
            clear HF HO
            revert F O
            generalize World.setCell _ _ _ = WF
            intro F O
            obtain ⟨s0, s1, s2, s3, s4⟩ := desc_cells F.rs
            exact bodyPost_ret (v := .tuple #[.slice Ao L.length co, .int .i64 (id + 1), .agg #[.int .i64 T, .int .i64 M, .int .i64 R, .int .i64 S, .int .i64 V]]) (by simp [results, Try.results47, go_sem, s0, s1, s2, s3, s4]) rfl ⟨_, _, _, L, _, _, _, _, _, _, rfl, (F.drewN 1 |> fun _ => (O.intsO (by omega)).drewN 1), (F.drewN 1).bel⟩
        · go_wp2_with fail
          refine (s_l04DrawAny g B _ S6).mono ?_
          rintro e w9 ⟨T', M', R', S', V', rfl, S9, g9⟩
          have D9 := D6.next hg1 hg2 hg3 g9
          have o9 := o6.kept g9 (.inr hne)
          clear S6 D6 o6 S9 g9 d0 d1 d2 d3 d4
          obtain ⟨n0, n1, n2, n3, n4⟩ := desc_cells D9.rs
          have j0 := frozen_of_row _ _ 0 _ _ D9.rs
          have j1 := frozen_of_row _ _ 1 _ _ D9.rs
          have j2 := frozen_of_row _ _ 2 _ _ D9.rs
          have j3 := frozen_of_row _ _ 3 _ _ D9.rs
          have j4 := frozen_of_row _ _ 4 _ _ D9.rs
          have HF := Lib.hid (D9.setS nS hwS (.int .i64 T') (.int .i64 M') (.int .i64 R') (.int .i64 S') (.int .i64 V'))
          have HO := Lib.hid (IOwn.fiveB o9 (g := gS) (by omega) (.int .i64 T') (.int .i64 M') (.int .i64 R') (.int .i64 S') (.int .i64 V'))
          clear D9 o9
          go_wp2
          have F := HF.out; have O := HO.out
          clear HF HO
          revert F O
          generalize World.setCell _ _ _ = WF
          intro F O
          obtain ⟨s0, s1, s2, s3, s4⟩ := desc_cells F.rs
          exact bodyPost_ret (v := .tuple #[.slice Ao L.length co, .int .i64 id, .agg #[.int .i64 T', .int .i64 M', .int .i64 R', .int .i64 S', .int .i64 V']]) (by simp [results, Try.results47, go_sem, s0, s1, s2, s3, s4]) rfl ⟨_, _, _, L, _, _, _, _, _, _, rfl, O.intsO (by omega), (F).bel⟩
      · go_wp2_with fail
        refine (s_l01Next g B _ _ S6).mono ?_
        rintro e w8 ⟨q0, rfl, q00, q01, S8, g8⟩
        have D8 := D6.next hg1 hg2 hg3 g8
        have o8 := o6.kept g8 (.inr hne)
        obtain ⟨p, rfl⟩ := nat_of' q0 q00
        have qL : (p : Int) < (L.length : Int) := (by omega)
        have z8 := g8.size
        clear S6 D6 o6 g8 q01 d0 d1 d2 d3 d4
        go_wp2_with fail
        refine (s_l01Next g B 256 _ S8).mono ?_
        rintro e w9 ⟨r2, rfl, _, _, S9, g9⟩
        have D9 := D8.next hg1 hg2 hg3 g9
        have o9 := o8.kept g9 (.inr hne)
        clear S8 S9 D8 o8 g9
        obtain ⟨A', c', e', hnc, hcm, hA⟩ := o9.form
        injection e' with e1 e2 e3
        subst e1 e3
        rcases hA with ⟨_, hxx, _⟩ | ⟨ob, rfl, hob, hlt⟩
        · exfalso; rw [hxx] at hL4; simp at hL4
        have hown : w9.ownsRow W3.heap.size 2 1 (.slice (some ⟨ob, 0, none⟩) L.length co) L.length (L.map (Value.int .i64)) := o9
        have hoc : w9.cell? ⟨ob, p, none⟩ = some (.int .i64 (L.getD p 0)) := by
          rw [hown.cellAt p (by omega), List.getElem?_map, List.getElem?_eq_getElem (by omega)]
          simp [List.getD_eq_getElem?_getD, List.getElem?_eq_getElem (show p < L.length by omega)]
        have hof := hown.frozenAt p
        obtain ⟨hst, _⟩ := hown.stored p (.int .i64 r2)
        rw [← List.map_set] at hst
        have hst' : IOwn (w9.setCell ⟨ob, p, none⟩ (.int .i64 r2)) W3.heap.size (.slice (some ⟨ob, 0, none⟩) (L.set p r2).length co) (L.set p r2) := by
          unfold IOwn; rw [List.length_set]; exact hst
        have HW := Lib.hid hst'
        have DD := Lib.hid (D9.setO (ob := ob) (k := p) (by omega) (by omega) (by omega) (.int .i64 r2))
        obtain ⟨y', hy⟩ : ∃ y, y = L.getD p 0 := ⟨_, rfl⟩
        rw [← hy] at hoc
        have hlen : (L.set p r2).length = L.length := List.length_set
        have HLEN := Lib.hid hlen
        clear hst hst' hown o9 D9 hy e2 hnc hcm hlen
        go_upto_region 19 with fail
        have D6 := DD.out; have o6 := HW.out
        rw [HLEN.out] at o6
        clear DD HW hoc hof
        generalize World.setCell _ _ _ = w6 at *
        obtain ⟨L2, hL2⟩ : ∃ L2, L2 = L.set p r2 := ⟨_, rfl⟩
        rw [← hL2] at o6 HLEN
        clear hL2
        obtain ⟨d0, d1, d2, d3, d4⟩ := desc_cells D6.rb
        obtain ⟨n0, n1, n2, n3, n4⟩ := desc_cells D6.rs
        have j0 := frozen_of_row _ _ 0 _ _ D6.rs
        have j1 := frozen_of_row _ _ 1 _ _ D6.rs
        have j2 := frozen_of_row _ _ 2 _ _ D6.rs
        have j3 := frozen_of_row _ _ 3 _ _ D6.rs
        have j4 := frozen_of_row _ _ 4 _ _ D6.rs
        have HF := Lib.hid (D6.setS nS hwS (.int .i64 T) (.int .i64 M) (.int .i64 R) (.int .i64 S) (.int .i64 V))
        have HO := Lib.hid (IOwn.fiveB o6 (g := gS) (by omega) (.int .i64 T) (.int .i64 M) (.int .i64 R) (.int .i64 S) (.int .i64 V))
        go_region_held3 (fun w' => w'.cell? ⟨bS, 0, none⟩ = some (.int .i64 T) ∧ w'.cell? ⟨bS, 1, none⟩ = some (.int .i64 M) ∧ w'.cell? ⟨bS, 2, none⟩ = some (.int .i64 R) ∧ w'.cell? ⟨bS, 3, none⟩ = some (.int .i64 S) ∧ w'.cell? ⟨bS, 4, none⟩ = some (.int .i64 V)) (go_keep) (fail)
        go_wp2
        have F := HF.out; have O := HO.out
        clear HF HO
        revert F O
        generalize World.setCell _ _ _ = WF
        intro F O
        obtain ⟨s0, s1, s2, s3, s4⟩ := desc_cells F.rs
        exact bodyPost_ret (v := .tuple #[.slice (some ⟨ob, 0, none⟩) L.length co, .int .i64 id, .agg #[.int .i64 T, .int .i64 M, .int .i64 R, .int .i64 S, .int .i64 V]]) (by simp [results, Try.results47, go_sem, s0, s1, s2, s3, s4]) rfl ⟨_, _, _, L2, _, _, _, _, _, _, rfl, (F.drewN 1 |> fun _ => (IOwn.ints2 O HLEN.out (by omega)).drewN 1), (F.drewN 1).bel⟩
    · obtain ⟨d0, d1, d2, d3, d4⟩ := desc_cells D5.rb
      go_upto_region 5 with fail
      go_region_held3 (fun w' => w'.cell? ⟨bS, 0, none⟩ = some (.int .i64 T) ∧ w'.cell? ⟨bS, 1, none⟩ = some (.int .i64 M) ∧ w'.cell? ⟨bS, 2, none⟩ = some (.int .i64 R) ∧ w'.cell? ⟨bS, 3, none⟩ = some (.int .i64 S) ∧ w'.cell? ⟨bS, 4, none⟩ = some (.int .i64 V)) (go_keep) (first | (go_at_call 86; refine (s_l01DrawBytes g B 10 _ (by first | exact S5 | exact S5.drewN 1) (by omega) (by omega)).mono ?_; rintro e w9 ⟨v9, ys, rfl, hy, o9, S9, g9⟩; obtain ⟨A9, c9, rfl, -, -, -⟩ := o9.form; have z9 : w5.heap.size ≤ w9.heap.size := g9.size; have D9 := DO.next (by first | exact D5 | exact D5.drewN 1) hg1 hg2 hg3 g9; replace o9 := o9.less (base' := w5.heap.size) (Nat.le_refl _); obtain ⟨d0, d1, d2, d3, d4⟩ := desc_cells D9.rb; obtain ⟨n0, n1, n2, n3, n4⟩ := desc_cells D9.rs; have j0 := frozen_of_row _ _ 0 _ _ D9.rs; have j1 := frozen_of_row _ _ 1 _ _ D9.rs; have j2 := frozen_of_row _ _ 2 _ _ D9.rs; have j3 := frozen_of_row _ _ 3 _ _ D9.rs; have j4 := frozen_of_row _ _ 4 _ _ D9.rs; have HF := Lib.hid (D9.setS nS hwS (.int .i64 T) (.int .i64 M) (.int .i64 R) (.int .i64 S) (.int .i64 V)); have HO := Lib.hid (IOwn.fiveB o9 (g := gS) (by omega) (.int .i64 T) (.int .i64 M) (.int .i64 R) (.int .i64 S) (.int .i64 V)); clear S9 g9 D9 o9))
      go_wp2
      have F := HF.out; have O := HO.out
      clear HF HO
      revert F O
      generalize World.setCell _ _ _ = WF
      intro F O
      obtain ⟨s0, s1, s2, s3, s4⟩ := desc_cells F.rs
      exact bodyPost_ret (v := .tuple #[.slice A9 ys.length c9, .int .i64 id, .agg #[.int .i64 T, .int .i64 M, .int .i64 R, .int .i64 S, .int .i64 V]]) (by simp [results, Try.results47, go_sem, s0, s1, s2, s3, s4]) rfl ⟨_, _, _, ys, _, _, _, _, _, _, rfl, O.intsO (by omega), (F).bel⟩
  · have hf0 : (C != 0) = true := by simpa using hC
    clear HALL HL o4
    obtain ⟨d0, d1, d2, d3, d4⟩ := desc_cells D4.rb
    go_upto_region 5 with fail
    go_region_held3 (fun w' => w'.cell? ⟨bS, 0, none⟩ = some (.int .i64 T) ∧ w'.cell? ⟨bS, 1, none⟩ = some (.int .i64 M) ∧ w'.cell? ⟨bS, 2, none⟩ = some (.int .i64 R) ∧ w'.cell? ⟨bS, 3, none⟩ = some (.int .i64 S) ∧ w'.cell? ⟨bS, 4, none⟩ = some (.int .i64 V)) (go_keep) (first | (go_at_call 86; refine (s_l01DrawBytes g B 10 _ (by first | exact S4 | exact S4.drewN 1) (by omega) (by omega)).mono ?_; rintro e w9 ⟨v9, ys, rfl, hy, o9, S9, g9⟩; obtain ⟨A9, c9, rfl, -, -, -⟩ := o9.form; have z9 : w4.heap.size ≤ w9.heap.size := g9.size; have D9 := DO.next (by first | exact D4 | exact D4.drewN 1) hg1 hg2 hg3 g9; replace o9 := o9.less (base' := w4.heap.size) (Nat.le_refl _); obtain ⟨d0, d1, d2, d3, d4⟩ := desc_cells D9.rb; obtain ⟨n0, n1, n2, n3, n4⟩ := desc_cells D9.rs; have j0 := frozen_of_row _ _ 0 _ _ D9.rs; have j1 := frozen_of_row _ _ 1 _ _ D9.rs; have j2 := frozen_of_row _ _ 2 _ _ D9.rs; have j3 := frozen_of_row _ _ 3 _ _ D9.rs; have j4 := frozen_of_row _ _ 4 _ _ D9.rs; have HF := Lib.hid (D9.setS nS hwS (.int .i64 T) (.int .i64 M) (.int .i64 R) (.int .i64 S) (.int .i64 V)); have HO := Lib.hid (IOwn.fiveB o9 (g := gS) (by omega) (.int .i64 T) (.int .i64 M) (.int .i64 R) (.int .i64 S) (.int .i64 V)); clear S9 g9 D9 o9))
    go_wp2
    have F := HF.out; have O := HO.out
    clear HF HO
    revert F O
    generalize World.setCell _ _ _ = WF
    intro F O
    obtain ⟨s0, s1, s2, s3, s4⟩ := desc_cells F.rs
    exact bodyPost_ret (v := .tuple #[.slice A9 ys.length c9, .int .i64 id, .agg #[.int .i64 T, .int .i64 M, .int .i64 R, .int .i64 S, .int .i64 V]]) (by simp [results, Try.results47, go_sem, s0, s1, s2, s3, s4]) rfl ⟨_, _, _, ys, _, _, _, _, _, _, rfl, O.intsO (by omega), (F).bel⟩
theorem op_len (xs : List Int) (C : Int) : (if C = 0 then hdD (xs.take (xs.length - 3)) else []).length ≤ xs.length := by
  split
  · unfold hdD
    split
    · simp; omega
    · split
      · simp; omega
      · simp
  · simp
theorem op_back {xs : List Int} {id T M R S V : Int} (h : ofC xs id T M R S V = 0) :
    slC (frOk (ofV (ofC xs id T M R S V) (hdK (xs.take (xs.length - 3)))) (ofV (ofC xs id T M R S V) (hdQ (xs.take (xs.length - 3)))) (ofV (ofC xs id T M R S V) (stF (xs.take (xs.length - 3)) 0 16)) (ofV (ofC xs id T M R S V) (stF (xs.take (xs.length - 3)) 16 4)) (ofV (ofC xs id T M R S V) (stF (xs.take (xs.length - 3)) 20 4)) (ofV (ofC xs id T M R S V) (stF (xs.take (xs.length - 3)) 24 8)) (ofV (ofC xs id T M R S V) (stF (xs.take (xs.length - 3)) 32 32)) (if ofC xs id T M R S V = 0 then hdD (xs.take (xs.length - 3)) else [])) (stOk T M R S V) id = 0 ∧
    sealL (ofV (ofC xs id T M R S V) (hdK (xs.take (xs.length - 3)))) (ofV (ofC xs id T M R S V) (hdQ (xs.take (xs.length - 3)))) (ofV (ofC xs id T M R S V) (stF (xs.take (xs.length - 3)) 0 16)) (ofV (ofC xs id T M R S V) (stF (xs.take (xs.length - 3)) 16 4)) (ofV (ofC xs id T M R S V) (stF (xs.take (xs.length - 3)) 20 4)) (ofV (ofC xs id T M R S V) (stF (xs.take (xs.length - 3)) 24 8)) (ofV (ofC xs id T M R S V) (stF (xs.take (xs.length - 3)) 32 32)) (if ofC xs id T M R S V = 0 then hdD (xs.take (xs.length - 3)) else []) id T M R S V = xs := by
  obtain ⟨h1, h2, ys, rfl, h3, h4⟩ := opened_back h
  simp only [ofV, h, if_true]
  exact ⟨by simp [slC, h1, h2, h3], h4⟩
set_option maxHeartbeats 8000000 in
theorem w_FnOpened (a0 : Option Addr) (len0 cap0 : Nat) (z0 : List Int) (w : World) (w0 : ArgBytes w a0 len0 cap0 z0) :
    Calls Try.prog 12 #[.slice a0 len0 cap0] w fun e w' => e = .returned (.bool true) ∧ Below w.heap.size w w' := by
  by_cases hbig : 4096 < len0
  · clear w0
    have hb : decide ((4096 : Int) < len0) = true := by simp; omega
    go_enter Try.func12, Try.ntmps12
    go_wp2_with (go_at_call 36; refine (h_big _ _ _ _).mono ?_; rintro e w' ⟨rfl, rfl⟩)
    go_ret
    exact ⟨rfl, Below.refl _ _⟩
  · have hI := w0.2.2 (by omega)
    have hb : decide ((4096 : Int) < len0) = false := by simp; omega
    clear w0
    go_enter Try.func12, Try.ntmps12
    go_wp2_with (go_at_call 36; refine (h_big _ _ _ _).mono ?_; rintro e w' ⟨rfl, rfl⟩)
    refine (s_DrawOpenFrame _ _ _ _ _ _ hI (Nat.le_refl _)).mono ?_
    rintro e w1 ⟨A1, n1, c1, xs, id, T, M, R, S, V, rfl, I1, BW⟩
    clear hI hb hbig
    have z1 := BW.size
    have hxl := I1.len
    have hxs := I1.small
    have RS := heap_alloc_new w1 (.cells #[.int .i64 T, .int .i64 M, .int .i64 R, .int .i64 S, .int .i64 V] 30)
    replace I1 := I1.alloc (Nat.le_refl _) (.cells #[.int .i64 T, .int .i64 M, .int .i64 R, .int .i64 S, .int .i64 V] 30)
    replace BW := BW.alloc z1 (.cells #[.int .i64 T, .int .i64 M, .int .i64 R, .int .i64 S, .int .i64 V] 30)
    have HI0 : ∀ (B : Nat) (W : World), IntsAt W B A1 n1 c1 xs → B ≤ W.heap.size → Calls Try.prog 35 #[.slice A1 n1 c1, .int .i64 id, .agg #[.int .i64 T, .int .i64 M, .int .i64 R, .int .i64 S, .int .i64 V]] W (fun e w' => ∃ sl, e = .returned (.tuple #[.agg #[.int .i64 (ofV (ofC xs id T M R S V) (hdK (xs.take (xs.length - 3)))), .int .i64 (ofV (ofC xs id T M R S V) (hdQ (xs.take (xs.length - 3)))), .int .i64 (ofV (ofC xs id T M R S V) (stF (xs.take (xs.length - 3)) 0 16)), .int .i64 (ofV (ofC xs id T M R S V) (stF (xs.take (xs.length - 3)) 16 4)), .int .i64 (ofV (ofC xs id T M R S V) (stF (xs.take (xs.length - 3)) 20 4)), .int .i64 (ofV (ofC xs id T M R S V) (stF (xs.take (xs.length - 3)) 24 8)), .int .i64 (ofV (ofC xs id T M R S V) (stF (xs.take (xs.length - 3)) 32 32)), sl], .int .i64 (ofC xs id T M R S V)]) ∧ IOwn w' W.heap.size sl (if ofC xs id T M R S V = 0 then hdD (xs.take (xs.length - 3)) else []) ∧ Below W.heap.size W w') :=
      fun B W h hB => i_OpenFrame A1 n1 c1 xs id T M R S V B W h hB
    have HI := Lib.hid HI0
    clear HI0
    have HS0 : ∀ (B : Nat) (W : World), IntsAt W B A1 n1 c1 xs → B ≤ W.heap.size → Calls Try.prog 34 #[.slice A1 n1 c1, .int .i64 id, .agg #[.int .i64 T, .int .i64 M, .int .i64 R, .int .i64 S, .int .i64 V]] W (fun e w' => ∃ sl, e = .returned (.tuple #[.agg #[.int .i64 (ofV (ofC xs id T M R S V) (hdK (xs.take (xs.length - 3)))), .int .i64 (ofV (ofC xs id T M R S V) (hdQ (xs.take (xs.length - 3)))), .int .i64 (ofV (ofC xs id T M R S V) (stF (xs.take (xs.length - 3)) 0 16)), .int .i64 (ofV (ofC xs id T M R S V) (stF (xs.take (xs.length - 3)) 16 4)), .int .i64 (ofV (ofC xs id T M R S V) (stF (xs.take (xs.length - 3)) 20 4)), .int .i64 (ofV (ofC xs id T M R S V) (stF (xs.take (xs.length - 3)) 24 8)), .int .i64 (ofV (ofC xs id T M R S V) (stF (xs.take (xs.length - 3)) 32 32)), sl], .int .i64 (ofC xs id T M R S V)]) ∧ IOwn w' W.heap.size sl (if ofC xs id T M R S V = 0 then hdD (xs.take (xs.length - 3)) else []) ∧ Below W.heap.size W w') :=
      fun B W h hB => s_OpenFrame A1 n1 c1 xs id T M R S V B W h hB
    have HS := Lib.hid HS0
    clear HS0
    have HIO := Lib.hid (fun B W h hB => i_IsOpenable A1 n1 c1 xs id T M R S V B W h hB)
    have HB := Lib.hid (@op_back xs id T M R S V)
    have hD := op_len xs (ofC xs id T M R S V)
    generalize (if ofC xs id T M R S V = 0 then hdD (xs.take (xs.length - 3)) else []) = D at *
    generalize (ofV (ofC xs id T M R S V) (hdK (xs.take (xs.length - 3)))) = k at *
    generalize (ofV (ofC xs id T M R S V) (hdQ (xs.take (xs.length - 3)))) = q at *
    generalize (ofV (ofC xs id T M R S V) (stF (xs.take (xs.length - 3)) 0 16)) = t at *
    generalize (ofV (ofC xs id T M R S V) (stF (xs.take (xs.length - 3)) 16 4)) = m at *
    generalize (ofV (ofC xs id T M R S V) (stF (xs.take (xs.length - 3)) 20 4)) = r at *
    generalize (ofV (ofC xs id T M R S V) (stF (xs.take (xs.length - 3)) 24 8)) = s at *
    generalize (ofV (ofC xs id T M R S V) (stF (xs.take (xs.length - 3)) 32 32)) = v at *
    generalize ofC xs id T M R S V = C at *
    have hD2 : D.length ≤ 16777216 := by omega
    have hcd : (C != C) = false := by simp
    have hbb : ((C == 0) != (C == 0)) = false := by simp
    have HXL := Lib.hid hxl
    clear hxl hD
    go_upto_region 4 with fail
    generalize hgS : w1.heap.size = gS at *
    generalize w1.alloc _ = W at *
    have yS := Below.lt_of' RS
    obtain ⟨s0, s1, s2, s3, s4⟩ := desc_cells RS
    go_wp2_with fail
    refine (HI.out _ _ I1 (by omega)).mono ?_
    rintro e wa ⟨ua, rfl, oa, ba⟩
    obtain ⟨Aa, da, rfl, Ia⟩ := oa.ints (by omega)
    have za := ba.size
    have Ra := heap_alloc_new wa (.cells #[.int .i64 k, .int .i64 q, .int .i64 t, .int .i64 m, .int .i64 r, .int .i64 s, .int .i64 v, .slice Aa D.length da] 32)
    replace RS := ((Below.heap_alloc wa (.cells #[.int .i64 k, .int .i64 q, .int .i64 t, .int .i64 m, .int .i64 r, .int .i64 s, .int .i64 v, .slice Aa D.length da] 32) gS (by omega)).trans (ba.block gS (by omega))).trans RS
    replace I1 := (I1.below' (by omega) ba).alloc (by omega) (.cells #[.int .i64 k, .int .i64 q, .int .i64 t, .int .i64 m, .int .i64 r, .int .i64 s, .int .i64 v, .slice Aa D.length da] 32)
    replace BW := (BW.trans (ba.mono (by omega))).alloc (by omega) (.cells #[.int .i64 k, .int .i64 q, .int .i64 t, .int .i64 m, .int .i64 r, .int .i64 s, .int .i64 v, .slice Aa D.length da] 32)
    replace Ia := Ia.alloc (Nat.le_refl _) (.cells #[.int .i64 k, .int .i64 q, .int .i64 t, .int .i64 m, .int .i64 r, .int .i64 s, .int .i64 v, .slice Aa D.length da] 32)
    clear oa ba HI s0 s1 s2 s3 s4
    go_upto_region 5 with fail
    generalize hga : wa.heap.size = ga at *
    generalize wa.alloc _ = Wa at *
    have ya := Below.lt_of' Ra
    obtain ⟨s0, s1, s2, s3, s4⟩ := desc_cells RS
    go_wp2_with fail
    refine (HS.out _ _ I1 (by omega)).mono ?_
    rintro e wb ⟨ub, rfl, ob, bb⟩
    obtain ⟨Ab, db, rfl, Ib⟩ := ob.ints (by omega)
    have zb := bb.size
    have Rb := heap_alloc_new wb (.cells #[.int .i64 k, .int .i64 q, .int .i64 t, .int .i64 m, .int .i64 r, .int .i64 s, .int .i64 v, .slice Ab D.length db] 32)
    replace RS := ((Below.heap_alloc wb (.cells #[.int .i64 k, .int .i64 q, .int .i64 t, .int .i64 m, .int .i64 r, .int .i64 s, .int .i64 v, .slice Ab D.length db] 32) gS (by omega)).trans (bb.block gS (by omega))).trans RS
    replace I1 := (I1.below' (by omega) bb).alloc (by omega) (.cells #[.int .i64 k, .int .i64 q, .int .i64 t, .int .i64 m, .int .i64 r, .int .i64 s, .int .i64 v, .slice Ab D.length db] 32)
    replace BW := (BW.trans (bb.mono (by omega))).alloc (by omega) (.cells #[.int .i64 k, .int .i64 q, .int .i64 t, .int .i64 m, .int .i64 r, .int .i64 s, .int .i64 v, .slice Ab D.length db] 32)
    replace Ib := Ib.alloc (Nat.le_refl _) (.cells #[.int .i64 k, .int .i64 q, .int .i64 t, .int .i64 m, .int .i64 r, .int .i64 s, .int .i64 v, .slice Ab D.length db] 32)
    replace Ra := ((Below.heap_alloc wb (.cells #[.int .i64 k, .int .i64 q, .int .i64 t, .int .i64 m, .int .i64 r, .int .i64 s, .int .i64 v, .slice Ab D.length db] 32) ga (by omega)).trans (bb.block ga (by omega))).trans Ra
    replace Ia := (Ia.below' (by omega) bb).alloc (by omega) (.cells #[.int .i64 k, .int .i64 q, .int .i64 t, .int .i64 m, .int .i64 r, .int .i64 s, .int .i64 v, .slice Ab D.length db] 32)
    clear ob bb HS s0 s1 s2 s3 s4
    go_upto_region 6 with fail
    generalize hgb : wb.heap.size = gb at *
    generalize wb.alloc _ = Wb at *
    have yb := Below.lt_of' Rb
    obtain ⟨s0, s1, s2, s3, s4⟩ := desc_cells RS
    obtain ⟨c0, c1', c2, c3, c4, c5, c6, c7⟩ := fr_cells Ra
    obtain ⟨x0, x1, x2, x3, x4, x5, x6, x7⟩ := fr_cells Rb
    go_wp2_with fail
    refine (h_likeFrames k q t m r s v _ _ _ _ _ _ D _ _ _ Ia Ib (by omega) (by omega)).mono ?_
    rintro e wp ⟨rfl, bp⟩
    have zp := bp.size
    replace RS := (bp.block gS (by omega)).trans RS
    replace Ra := (bp.block ga (by omega)).trans Ra
    replace I1 := I1.below' (by omega) bp
    replace Ia := Ia.below' (by omega) bp
    replace BW := BW.trans (bp.mono (by omega))
    clear bp Rb Ib c0 c1' c2 c3 c4 c5 c6 c7 x0 x1 x2 x3 x4 x5 x6 x7 s0 s1 s2 s3 s4
    obtain ⟨s0, s1, s2, s3, s4⟩ := desc_cells RS
    go_wp2_with fail
    refine (HIO.out _ _ I1 (by omega)).mono ?_
    rintro e wq ⟨rfl, bq⟩
    have zq := bq.size
    replace RS := (bq.block gS (by omega)).trans RS
    replace Ra := (bq.block ga (by omega)).trans Ra
    replace I1 := I1.below' (by omega) bq
    replace Ia := Ia.below' (by omega) bq
    replace BW := BW.trans (bq.mono (by omega))
    clear bq s0 s1 s2 s3 s4 HIO
    by_cases hC : C = 0
    · subst hC
      obtain ⟨p1, p2⟩ := HB.out rfl
      have HSE := fun B W h hB => i_SealFrame k q t m r s v Aa D.length da D id T M R S V B W h hB
      simp only [p1, p2, if_true] at HSE
      replace HSE := Lib.hid HSE
      clear HB p1 p2
      have he := eqL_refl xs
      have hxx : xs.length ≤ 16777216 := by rw [HXL.out]; exact hxs
      obtain ⟨c0, c1', c2, c3, c4, c5, c6, c7⟩ := fr_cells Ra
      obtain ⟨s0, s1, s2, s3, s4⟩ := desc_cells RS
      go_wp2_with fail
      refine (HSE.out _ _ Ia (by omega)).mono ?_
      rintro e wr ⟨ur, rfl, or', br⟩
      obtain ⟨Ar, dr, rfl, Ir⟩ := or'.ints hxx
      replace I1 := I1.below' (by omega) br
      replace BW := BW.trans (br.mono (by omega))
      clear or' br
      go_wp2_with fail
      refine (h_likeInts _ _ _ _ _ _ _ _ _ _ _ Ir I1).mono ?_
      rintro e ws ⟨rfl, ms, rfl⟩
      rw [he]
      go_wp2
      go_ret
      exact ⟨rfl, below_drewN BW _⟩
    · have hf0 : (C != 0) = true := by simpa using hC
      clear HB
      go_wp2
      go_ret
      exact ⟨rfl, BW⟩
end Go.Proofs.Ytpcdachkmekjgaa

/- A drawn node table with its drifts; its bytes. -/
import Derived.Test.YtgenfffgenddmaaDoorDn4a
import Derived.Test.YtgenfffgenddmaaDoorDrawBz
import Derived.Test.YtgenfffgenddmaaDoorNod11
namespace Go.Proofs.YtgenfffgenddmaaDoor
open Go.RowKit
set_option linter.unusedSimpArgs false
set_option linter.unusedVariables false
def ndSm (L : List Nd) : Prop := ∀ d ∈ L, d.nm.size ≤ 30 ∧ 0 ≤ d.dr ∧ d.dr ≤ 1000
def DrewG (B g : Nat) (w : World) (m : Nat) (e : Ending) (w' : World) : Prop := ∃ (v : Value) (L : List Nd), e = .returned v ∧ NS w B g w' v L ∧ m ≤ L.length ∧ L.length ≤ 7 - m ∧ ndSm L
set_option maxHeartbeats 4000000 in
set_option maxRecDepth 100000 in
theorem s_l10DrawG (g B : Nat) (w : World) (h : Src w B g) :
    Calls Tryd.prog 67 #[.pointer (some ⟨g, 0, none⟩)] w (DrewG B g w 1) := by
  have hl := h.lt
  have hO : NOwn (w.alloc (.cells #[] 36)) w.heap.size (.slice (some ⟨w.heap.size, 0, none⟩) 0 0) [] := World.ownsRow_lit (e := 36) (size := 4) w #[] 0 (Nat.le_refl _) (by unfold maxLen; omega) (by simp)
  have N0 : NS w B g (w.alloc (.cells #[] 36)) (.slice (some ⟨w.heap.size, 0, none⟩) 0 0) [] := ⟨h.alloc _, hO, grown_alloc (World.grownBy.refl _ _) _⟩
  clear hO
  go_enter Tryd.func67, Tryd.ntmps67
  go_wp2_with fail
  refine (s_l01Next g B 2 _ N0.s).mono ?_
  rintro e w1 ⟨r1, rfl, r1a, r1b, S1, g1⟩
  have N1 := N0.next hl S1 g1
  clear N0 S1 g1 h
  go_wp2_with fail
  refine (s_l01Next g B 4 _ N1.s).mono ?_
  rintro e w2 ⟨r2, rfl, r2a, r2b, S2, g2⟩
  have N2 := Lib.hid (N1.next hl S2 g2)
  clear N1 S2 g2
  have hw1 : IntKind.i64.wrap (1 + r2) = 1 + r2 := IntWalk.i64_in _ (by omega)
  generalize Value.slice (some ⟨w.heap.size, 0, none⟩) 0 0 = v0 at *
  go_wp2
  go_loopw [3, 4, 5] (fun v i lf wr => ∃ (L : List Nd) (x y : Int), i = .int .i64 x ∧ lf = .int .i64 y ∧ 0 ≤ x ∧ 0 ≤ y ∧ x + 3 * y ≤ 14 ∧ 1 ≤ L.length + y.toNat ∧ L.length + y.toNat ≤ 5 ∧ Hid (ndSm L) ∧ Hid (NS w B g wr v L)) (fun _ _ lf _ => (intOf lf).toNat)
  case atStart => exact ⟨[], r1, 1 + r2, rfl, rfl, r1a, by omega, by omega, by simp; omega, by simp; omega, Lib.hid (by intro d hd; cases hd), N2⟩
  case round =>
    clear N2
    obtain ⟨L, x, y, rfl, rfl, x0, y0, xy, l0, l1, hnm, hN⟩ := hrel
    by_cases hy : 0 < y
    · have N := hN.out
      have hw2 : IntKind.i64.wrap (x + 1) = x + 1 := IntWalk.i64_in _ (by omega)
      go_wp2_with fail
      refine (s_l01DecU x wr x0 (by omega)).mono ?_
      rintro e w3 ⟨s, rfl, hs, b3⟩
      have N3 := N.below b3
      have hz : ¬ 9223372036854775807 < 1 + s.size := by omega
      clear N b3 hN
      go_wp2_with fail
      refine (s_l01Next g B 200 _ N3.s).mono ?_
      rintro e w4 ⟨r4, rfl, r4a, r4b, S4, g4⟩
      have N4 := N3.next hl S4 g4
      clear N3 S4 g4
      go_wp2_with fail
      refine (s_l01Next g B 5 _ N4.s).mono ?_
      rintro e w5 ⟨r5, rfl, r5a, r5b, S5, g5⟩
      have N5 := N4.next hl S5 g5
      have z5 := N5.size
      clear N4 S5 g5
      go_wp2_with (at_builtin; refine wpList_appN _ rfl _ _ rfl w.heap.size _ L rfl (N5.alloc _).o _ _ ⟨x, ⟨#[110]⟩ ++ s, r4, _⟩ rfl (heap_alloc_new _ _) (by omega) (by rw [World.size_alloc]; omega) ?_; intro v6 w6 O6 g6)
      have N6 := (N5.alloc _).put hl g6 O6
      have HM := Lib.hid (show ndSm (L ++ [⟨x, ⟨#[110]⟩ ++ s, r4, r5 == 0⟩]) by
        intro d hd
        rcases List.mem_append.1 hd with hd | hd
        · exact hnm.out d hd
        · have : d = ⟨x, ⟨#[110]⟩ ++ s, r4, r5 == 0⟩ := by simpa using hd
          subst this
          refine ⟨?_, r4a, by show r4 ≤ 1000; omega⟩
          show (⟨#[110]⟩ ++ s : ByteArray).size ≤ 30
          rw [ByteArray.size_append]
          show 1 + s.size ≤ 30
          omega)
      have hln : (L ++ [(⟨x, ⟨#[110]⟩ ++ s, r4, r5 == 0⟩ : Nd)]).length = L.length + 1 := by simp
      generalize L ++ [(⟨x, ⟨#[110]⟩ ++ s, r4, r5 == 0⟩ : Nd)] = L2 at *
      clear N5 O6 g6 z5
      refine (s_l01Next g B 3 _ N6.s).mono ?_
      rintro e w7 ⟨r7, rfl, r7a, r7b, S7, g7⟩
      have N7 := Lib.hid (N6.next hl S7 g7)
      clear N6 S7 g7
      go_wp2
      go_roundw
      case rel => exact ⟨L2, x + 1 + r7, y - 1, by go_num, by go_num, by omega, by omega, by omega, by omega, by omega, HM, N7⟩
      case measure => simp [intOf]; omega
    · have N := hN.out
      go_wp2
      go_ret
      exact ⟨_, L, rfl, N, by omega, by omega, hnm.out⟩
theorem encK_lenG {L : List Nd} (h : ∀ (k : Nat) (d : Nd), L[k]? = some d → d.nm.size ≤ 30) : ∀ k, (encK L k).length ≤ 1 + k * 35
  | 0 => by simp [encK]
  | k + 1 => by
    have := encK_lenG h k
    unfold encK
    split
    · rename_i d hd
      have := h k d hd
      rw [List.length_append, encNd_len]; omega
    · omega
set_option maxHeartbeats 4000000 in
theorem s_l10BytesG (A : Option Addr) (n c : Nat) (L : List Nd) (B : Nat) (w : World) (h : NodesAt w B A n c L) (hB : B ≤ w.heap.size) (hn : n ≤ 32) (hD' : ∀ (k : Nat) (d : Nd), L[k]? = some d → (0 ≤ d.dr ∧ d.dr ≤ 1000) ∧ d.nm.size ≤ 30) :
    Calls Tryd.prog 63 #[.slice A n c] w fun e w' => ∃ v, e = .returned v ∧ IOwn w' w.heap.size v (encK L n) ∧ Below w.heap.size w w' := by
  have hl := h.1
  have hD := Lib.hid hD'
  have hE := Lib.hid (encK_lenG (L := L) fun k d hd => (hD.out k d hd).2)
  have hE0 := Lib.hid (show encK L 0 = [(n : Int)] by rw [← hl]; rfl)
  clear hD' hl
  go_enter Tryd.func63, Tryd.ntmps63
  go_wp2
  go_loopw [3, 4] (fun v i wr => ∃ k : Nat, k ≤ n ∧ i = .int .i64 k ∧ Hid (IOwn wr w.heap.size v (encK L k)) ∧ Below w.heap.size w wr) (fun _ i _ => n - (intOf i).toNat)
  case atStart => exact ⟨0, Nat.zero_le _, rfl, Lib.hid (by rw [hE0.out]; exact lit_own w [(n : Int)] _ (Nat.le_refl _) (by simp)), (Below.refl _ _).alloc (Nat.le_refl _) _⟩
  case round =>
    clear hE0
    obtain ⟨k, hk, rfl, H, hb⟩ := hrel
    have zb := hb.size
    by_cases hlt : k < n
    · obtain ⟨ad, d, rfl, hab, hd, cs, -⟩ := h.at_ k hlt
      obtain ⟨c0, c1, c2, c3⟩ := cs.keep (w' := wr) fun p hp => hb.cell (by rw [hp]; omega)
      obtain ⟨⟨r0, r1⟩, s6⟩ := hD.out k d hd
      have HN := Lib.hid (encK_next hd)
      have hX := hE.out k
      have S := NI.start H.out hb (.cells d.cells 36)
      clear cs hd h H hb
      generalize encK L k = X at *
      obtain ⟨i, s, r, p⟩ := d
      simp only [Nd.cells] at c0 c1 c2 c3 S
      simp only at r0 r1 s6
      go_upto_region 7 with fail
      generalize hg : wr.heap.size = g at *
      generalize World.alloc _ _ = W at *
      clear c0 c1 c2 c3 hg
      obtain ⟨q0, q1, q2, q3⟩ := cells4 S.2.2.1
      have zW := S.2.1.size
      have zg := S.lt
      have a2 : r.tdiv 256 = r / 256 := Int.tdiv_eq_ediv_of_nonneg r0
      have a3 : r.tmod 256 = r % 256 := Int.tmod_eq_emod_of_nonneg r0
      have a4 : IntKind.i64.wrap (r / 256) = r / 256 := IntWalk.i64_in _ (by omega)
      have HX2 := Lib.hid (show X ++ encNd ⟨i, s, r, p⟩ = X ++ [i, r / 256, r % 256, pvZ p, (s.size : Int)] ++ (encNm s).take s.size by
        rw [List.take_of_length_le (by rw [encNm_len]; omega), List.append_assoc]; rfl)
      go_upto_if 22 with (fail)
      go_cut [6] from 6 to 6 (fun v6 wx => v6 = .int .i64 (pvZ p) ∧ wx = W)
      case first =>
        cases p
        · go_wp2
          go_meet
          case rel => exact ⟨rfl, rfl⟩
        · go_wp2
          go_meet
          case rel => exact ⟨rfl, rfl⟩
      obtain ⟨rfl, rfl⟩ := hcut
      generalize pvZ p = z at *
      go_wp2_with (at_builtin; refine wpList_app _ rfl _ _ 22 rfl w.heap.size Tryd.underlying22 int_info _ X rfl (S.1.alloc _) _ _ 5 5 [i, r / 256, r % 256, z, (s.size : Int)] rfl (lit_ints _ [i, r / 256, r % 256, z, (s.size : Int)] 2 (by simp)) (by omega) (by rw [World.size_alloc]; omega) ?_; intro v' w' O' g' ob')
      have hcut := Lib.hid (S.app g' O' ob')
      clear O' g' ob'
      clear S q0 q1 q2 q3 a2 a3 a4 zW zg
      have hX5 : (X ++ [i, r / 256, r % 256, z, (s.size : Int)]).length = X.length + 5 := by simp
      generalize X ++ [i, r / 256, r % 256, z, (s.size : Int)] = Y at *
      go_loopw [3, 7] (fun v ji wj => ∃ j : Nat, j ≤ s.size ∧ ji = .int .i64 j ∧ Hid (NI w g (.cells #[.int .i64 i, .string s, .int .i64 r, .bool p] 36) wj v (Y ++ (encNm s).take j))) (fun _ ji _ => s.size - (intOf ji).toNat)
      case atStart => exact ⟨0, Nat.zero_le _, rfl, Lib.hid (by simpa using hcut.out)⟩
      case round =>
        clear hcut
        obtain ⟨j, hj, rfl, HS⟩ := hrel
        obtain ⟨q0, q1, q2, q3⟩ := cells4 HS.out.2.2.1
        by_cases hjs : j < s.size
        · have HT := Lib.hid (encNm_next hjs)
          have S := HS.out
          have zW := S.2.1.size
          have hll : (Y ++ (encNm s).take j).length ≤ 2000 := by rw [List.length_append, List.length_take]; omega
          generalize hZ : Y ++ (encNm s).take j = Z at *
          have HZ := Lib.hid hZ
          clear hZ
          have hb1 : (s[j]'hjs).toNat < 256 := (s[j]'hjs).toNat_lt
          have hb2 : wrap64 (((s[j]'hjs).toNat : Nat) : Int) = (((s[j]'hjs).toNat : Nat) : Int) := IntWalk.wrap64_in _ ⟨by omega, by omega⟩
          have j0 : (0 : Int) ≤ (j : Int) := by omega
          have j1 : (j : Int) < (s.size : Int) := by omega
          go_wp2_with (at_builtin; refine wpList_app _ rfl _ _ 22 rfl w.heap.size Tryd.underlying22 int_info _ Z rfl (S.1.alloc _) _ _ 1 1 [(((s[j]'hjs).toNat : Nat) : Int)] rfl (lit_ints _ [(((s[j]'hjs).toNat : Nat) : Int)] 2 (by simp)) (by omega) (by rw [World.size_alloc]; omega) ?_; intro v2 w2 O2 g2 ob2)
          have S2 := S.app g2 O2 ob2
          go_roundw
          case rel => exact ⟨j + 1, by omega, by go_num, Lib.hid (by rw [HT.out, ← List.append_assoc, HZ.out]; exact S2)⟩
          case measure => simp [intOf]; omega
        · obtain rfl : j = s.size := by omega
          have S := HS.out
          go_wp2
          go_roundw
          case rel => exact ⟨k + 1, by omega, by go_num, Lib.hid (by rw [HN.out, HX2.out]; exact S.1), S.2.1⟩
          case measure => simp [intOf]; omega
    · obtain rfl : k = n := by omega
      go_wp2
      go_ret
      exact ⟨_, rfl, H.out, hb⟩
end Go.Proofs.YtgenfffgenddmaaDoor

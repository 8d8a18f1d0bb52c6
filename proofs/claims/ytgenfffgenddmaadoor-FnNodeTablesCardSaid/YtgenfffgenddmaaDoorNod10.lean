/- A table's bytes, both texts. -/
import Derived.Test.YtgenfffgenddmaaDoorNod7
import Derived.Test.YtgenfffgenddmaaDoorHelp
import Derived.StillTailTactics
namespace Go.Proofs.YtgenfffgenddmaaDoor
open Go.RowKit
set_option linter.unusedSimpArgs false
set_option linter.unusedVariables false
def pvZ (b : Bool) : Int := if b then 1 else 0
def encNm (s : ByteArray) : List Int := s.data.toList.map fun b => (b.toNat : Int)
def encHd (d : Nd) : List Int := [d.id, d.dr / 256, d.dr % 256, pvZ d.pv, (d.nm.size : Int)]
def encNd (d : Nd) : List Int := encHd d ++ encNm d.nm
def encK (L : List Nd) : Nat → List Int
  | 0 => [(L.length : Int)]
  | k + 1 => match L[k]? with | some d => encK L k ++ encNd d | none => encK L k
theorem encNm_len (s : ByteArray) : (encNm s).length = s.size := by simp [encNm]
theorem encNd_len (d : Nd) : (encNd d).length = 5 + d.nm.size := by simp [encNd, encHd, encNm_len]; omega
theorem encK_next {L : List Nd} {k : Nat} {d : Nd} (hd : L[k]? = some d) : encK L (k + 1) = encK L k ++ encNd d := by simp [encK, hd]
theorem encK_len {L : List Nd} (h : ∀ (k : Nat) (d : Nd), L[k]? = some d → d.nm.size ≤ 6) : ∀ k, (encK L k).length ≤ 1 + k * 11
  | 0 => by simp [encK]
  | k + 1 => by
    have := encK_len h k
    unfold encK
    split
    · rename_i d hd
      have := h k d hd
      rw [List.length_append, encNd_len]; omega
    · omega
theorem encNm_next {s : ByteArray} {j : Nat} (h : j < s.size) : (encNm s).take (j + 1) = (encNm s).take j ++ [((s[j]'h).toNat : Int)] := by
  have hl := encNm_len s
  rw [List.take_add_one, List.getElem?_eq_getElem (by omega)]
  simp [encNm]
  rfl
theorem ndOk_nm {d : Nd} (h : ndOk d = true) : d.nm.size ≤ 6 := by
  unfold ndOk okNm at h
  simp only [Bool.and_eq_true, decide_eq_true_eq] at h
  exact h.1.1.1.2
/-- The bytes so far, owned, beside block g that holds o. -/
def NI (w : World) (g : Nat) (o : Obj) (W : World) (v : Value) (xs : List Int) : Prop :=
  IOwn W w.heap.size v xs ∧ Below w.heap.size w W ∧ W.heap[g]? = some o ∧ v.ownBlock ≠ some g
section
variable {w W W' : World} {g : Nat} {o q : Obj} {v v' : Value} {xs ys : List Int}
theorem NI.start (h : IOwn W w.heap.size v xs) (hb : Below w.heap.size w W) (o : Obj) : NI w W.heap.size o (W.alloc o) v xs :=
  ⟨h.alloc o, hb.alloc hb.size o, heap_alloc_new W o, fun e => by have := (h.lt _ e).2; omega⟩
theorem NI.lt (h : NI w g o W v xs) : g < W.heap.size := by
  rcases Nat.lt_or_ge g W.heap.size with hlt | hge
  · exact hlt
  · have := h.2.2.1; rw [Array.getElem?_eq_none hge] at this; cases this
theorem NI.app (h : NI w g o W v xs) (hg : (W.alloc q).grownBy W' v.ownBlock) (hO : IOwn W' w.heap.size v' ys) (hv : v'.ownBlock = v.ownBlock ∨ v'.ownBlock = some (W.alloc q).heap.size) : NI w g o W' v' ys := by
  have hlt := h.lt
  refine ⟨hO, app_below' h.2.1 (Nat.le_refl _) h.2.1.size h.1 hg, ?_, ?_⟩
  · rw [hg.block g (by simp; omega) (fun e => h.2.2.2 e.symm), Below.heap_alloc _ _ _ hlt]; exact h.2.2.1
  · rcases hv with e | e
    · rw [e]; exact h.2.2.2
    · rw [e, World.size_alloc]; intro e'; injection e' with e'; omega
theorem NI.drew (h : NI w g o W v xs) : NI w g o W.drew v xs := ⟨h.1.drewN 1, below_drewN h.2.1 1, h.2.2.1, h.2.2.2⟩
end
set_option maxHeartbeats 4000000 in
theorem s_l10Bytes (A : Option Addr) (n c : Nat) (L : List Nd) (B : Nat) (w : World) (h : NodesAt w B A n c L) (hB : B ≤ w.heap.size) (ho : ntOk L = true) :
    Calls Tryd.prog 63 #[.slice A n c] w fun e w' => ∃ v, e = .returned v ∧ IOwn w' w.heap.size v (encK L n) ∧ Below w.heap.size w w' := by
  have hl := h.1
  have hn := (ntOk_split ho).1
  rw [hl] at hn
  have hD := Lib.hid (fun (k : Nat) (d : Nd) (hd : L[k]? = some d) => And.intro (ndOk_rng (ntOk_nd ho hd)).2 (ndOk_nm (ntOk_nd ho hd)))
  have hE := Lib.hid (encK_len (L := L) fun k d hd => (hD.out k d hd).2)
  have hE0 := Lib.hid (show encK L 0 = [(n : Int)] by rw [← hl]; rfl)
  clear ho hl
  go_enter Tryd.func63, Tryd.ntmps63
  go_wp2
  go_loopw [3, 4] (fun v i wr => ∃ k : Nat, k ≤ n ∧ i = .int .i64 k ∧ Hid (IOwn wr w.heap.size v (encK L k)) ∧ Below w.heap.size w wr) (fun _ i _ => n - (intOf i).toNat)
  case atStart => exact ⟨0, Nat.zero_le _, rfl, Lib.hid (by rw [hE0.out]; exact lit_own w [(n : Int)] _ (Nat.le_refl _) (by simp)), (Below.refl _ _).alloc (Nat.le_refl _) _⟩
  case round =>
    clear hE0
    obtain ⟨k, hk, rfl, H, hb⟩ := hrel
    have zb := hb.size
    by_cases hlt : k < n
    · obtain ⟨ad, d, rfl, hab, hd, cs, -⟩ := h.at_ k hlt
      obtain ⟨c0, c1, c2, c3⟩ := cs.keep (w' := wr) fun p hp => hb.cell (by rw [hp]; omega)
      obtain ⟨⟨r0, r1⟩, s6⟩ := hD.out k d hd
      have HN := Lib.hid (encK_next hd)
      have hX := hE.out k
      have S := NI.start H.out hb (.cells d.cells 36)
      clear cs hd h H hb
      generalize encK L k = X at *
      obtain ⟨i, s, r, p⟩ := d
      simp only [Nd.cells] at c0 c1 c2 c3 S
      simp only at r0 r1 s6
      go_upto_region 7 with fail
      generalize hg : wr.heap.size = g at *
      generalize World.alloc _ _ = W at *
      clear c0 c1 c2 c3 hg
      obtain ⟨q0, q1, q2, q3⟩ := cells4 S.2.2.1
      have zW := S.2.1.size
      have zg := S.lt
      have a2 : r.tdiv 256 = r / 256 := Int.tdiv_eq_ediv_of_nonneg r0
      have a3 : r.tmod 256 = r % 256 := Int.tmod_eq_emod_of_nonneg r0
      have a4 : IntKind.i64.wrap (r / 256) = r / 256 := IntWalk.i64_in _ (by omega)
      have HX2 := Lib.hid (show X ++ encNd ⟨i, s, r, p⟩ = X ++ [i, r / 256, r % 256, pvZ p, (s.size : Int)] ++ (encNm s).take s.size by
        rw [List.take_of_length_le (by rw [encNm_len]; omega), List.append_assoc]; rfl)
      go_upto_if 22 with (fail)
      go_cut [6] from 6 to 6 (fun v6 wx => v6 = .int .i64 (pvZ p) ∧ wx = W)
      case first =>
        cases p
        · go_wp2
          go_meet
          case rel => exact ⟨rfl, rfl⟩
        · go_wp2
          go_meet
          case rel => exact ⟨rfl, rfl⟩
      obtain ⟨rfl, rfl⟩ := hcut
      generalize pvZ p = z at *
      go_wp2_with (at_builtin; refine wpList_app _ rfl _ _ 22 rfl w.heap.size Tryd.underlying22 int_info _ X rfl (S.1.alloc _) _ _ 5 5 [i, r / 256, r % 256, z, (s.size : Int)] rfl (lit_ints _ [i, r / 256, r % 256, z, (s.size : Int)] 2 (by simp)) (by omega) (by rw [World.size_alloc]; omega) ?_; intro v' w' O' g' ob')
      have hcut := Lib.hid (S.app g' O' ob')
      clear O' g' ob'
      clear S q0 q1 q2 q3 a2 a3 a4 zW zg
      have hX5 : (X ++ [i, r / 256, r % 256, z, (s.size : Int)]).length = X.length + 5 := by simp
      generalize X ++ [i, r / 256, r % 256, z, (s.size : Int)] = Y at *
      go_loopw [3, 7] (fun v ji wj => ∃ j : Nat, j ≤ s.size ∧ ji = .int .i64 j ∧ Hid (NI w g (.cells #[.int .i64 i, .string s, .int .i64 r, .bool p] 36) wj v (Y ++ (encNm s).take j))) (fun _ ji _ => s.size - (intOf ji).toNat)
      case atStart => exact ⟨0, Nat.zero_le _, rfl, Lib.hid (by simpa using hcut.out)⟩
      case round =>
        clear hcut
        obtain ⟨j, hj, rfl, HS⟩ := hrel
        obtain ⟨q0, q1, q2, q3⟩ := cells4 HS.out.2.2.1
        by_cases hjs : j < s.size
        · have HT := Lib.hid (encNm_next hjs)
          have S := HS.out
          have zW := S.2.1.size
          have hll : (Y ++ (encNm s).take j).length ≤ 400 := by rw [List.length_append, List.length_take]; omega
          generalize hZ : Y ++ (encNm s).take j = Z at *
          have HZ := Lib.hid hZ
          clear hZ
          have hb1 : (s[j]'hjs).toNat < 256 := (s[j]'hjs).toNat_lt
          have hb2 : wrap64 (((s[j]'hjs).toNat : Nat) : Int) = (((s[j]'hjs).toNat : Nat) : Int) := IntWalk.wrap64_in _ ⟨by omega, by omega⟩
          have j0 : (0 : Int) ≤ (j : Int) := by omega
          have j1 : (j : Int) < (s.size : Int) := by omega
          go_wp2_with (at_builtin; refine wpList_app _ rfl _ _ 22 rfl w.heap.size Tryd.underlying22 int_info _ Z rfl (S.1.alloc _) _ _ 1 1 [(((s[j]'hjs).toNat : Nat) : Int)] rfl (lit_ints _ [(((s[j]'hjs).toNat : Nat) : Int)] 2 (by simp)) (by omega) (by rw [World.size_alloc]; omega) ?_; intro v2 w2 O2 g2 ob2)
          have S2 := S.app g2 O2 ob2
          go_roundw
          case rel => exact ⟨j + 1, by omega, by go_num, Lib.hid (by rw [HT.out, ← List.append_assoc, HZ.out]; exact S2)⟩
          case measure => simp [intOf]; omega
        · obtain rfl : j = s.size := by omega
          have S := HS.out
          go_wp2
          go_roundw
          case rel => exact ⟨k + 1, by omega, by go_num, Lib.hid (by rw [HN.out, HX2.out]; exact S.1), S.2.1⟩
          case measure => simp [intOf]; omega
    · obtain rfl : k = n := by omega
      go_wp2
      go_ret
      exact ⟨_, rfl, H.out, hb⟩
end Go.Proofs.YtgenfffgenddmaaDoor

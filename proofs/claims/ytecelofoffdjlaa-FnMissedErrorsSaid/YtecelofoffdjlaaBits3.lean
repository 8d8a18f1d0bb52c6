/- The sum of two bit lists, and flipping. -/
import Derived.Test.YtecelofoffdjlaaBits2
import Derived.Deep.RegionHeldLaw
namespace Go.Proofs.Ytecelofoffdjlaa
open Go.RowKit
set_option linter.unusedSimpArgs false
set_option linter.unusedVariables false
theorem step_app {P : Program} {ops : Array Oper} {o : Oper} {a : Act} {w : World} {K : Act → World → Prop} {Q : Exit → Act → World → Prop} {E : Prop}
    (hg : o.guard = none) (s x : Operand) (t : TypeId) (ho : o.op = .call { callee := .builtin .append, args := #[s, x], argTypes := #[t, t] })
    (base : Nat) (ht : P.underlying t = some (.slice 2)) (hinfo : (P.info? 2).map (fun i => (i.zero, i.size, i.bytes)) = some (some (.int .i64 0), 1, 8))
    (v : Value) (xs : List Int) (hs : a.eval s = v) (hown : IOwn w base v xs) (B : Nat) (A : Option Addr) (m c : Nat) (ys : List Int) (hx : a.eval x = .slice A m c) (hr : IntsAt w B A m c ys)
    (hn : xs.length + m ≤ 17179869184) (hbase : base ≤ w.heap.size)
    (h : ∀ v' w', IOwn w' base v' (xs ++ ys) → w.grownBy w' v.ownBlock → (v'.ownBlock = v.ownBlock ∨ v'.ownBlock = some w.heap.size) → K (a.put o.dst v') w') :
    if Region.wanted o (yielded ops a.tmps) = true then Oper.wp P o a w K Q else E := by
  have hw : Region.wanted o (yielded ops a.tmps) = true := by simp [Region.wanted, hg]
  rw [if_pos hw]
  exact wp_app w s x t ho base ht hinfo v xs hs hown B A m c ys hx hr hn hbase h
set_option maxHeartbeats 2000000 in
theorem i_SumErrors (A A' : Option Addr) (n c c' : Nat) (xs ys : List Int) (B B' : Nat) (w : World) (h : IntsAt w B A n c xs) (h' : IntsAt w B' A' n c' ys) (hB : B ≤ w.heap.size) (hB' : B' ≤ w.heap.size) (hx : bitsOk xs = true) (hy : bitsOk ys = true) :
    Calls Try.prog 94 #[.slice A n c, .slice A' n c'] w fun e w' => ∃ v, e = .returned (.tuple #[v, .int .i64 0]) ∧ IOwn w' w.heap.size v (sumL xs ys n) ∧ Below w.heap.size w w' := by
  have c1 := i_twoLists A A' n c c' xs ys B B' w h h' hx hy
  have hn := h.small
  have hl := h.len; have hl' := h'.len
  go_enter Try.func94, Try.ntmps94
  go_wp2_with (go_at_call 121; with_reducible refine c1.mono ?_; rintro e w' ⟨rfl, rfl⟩)
  go_loopw [7, 18] (fun o i wr => ∃ k : Nat, k ≤ n ∧ i = .int .i64 k ∧ IOwn wr w.heap.size o (sumL xs ys k) ∧ Below w.heap.size w wr) (fun _ i _ => n - (intOf i).toNat)
  case atStart => exact ⟨0, by omega, rfl, lit_own w [] _ (Nat.le_refl _) (by simp), (Below.refl _ _).alloc (Nat.le_refl _) _⟩
  case round =>
    obtain ⟨k, hk, rfl, hown, hb⟩ := hrel
    have hlen := sumL_len xs ys k
    have hsz := hb.size
    by_cases hlt : k < n
    · obtain ⟨ad, rfl, hab, hx1⟩ := h.at_ k hlt
      obtain ⟨ad', rfl, hab', hy1⟩ := h'.at_ k hlt
      have p1 : wr.cell? (ad.add k) = some (.int .i64 (xs.getD k 0)) := by rw [hb.cell (by rw [block_add]; omega)]; exact hx1
      have p2 : wr.cell? (ad'.add k) = some (.int .i64 (ys.getD k 0)) := by rw [hb.cell (by rw [block_add]; omega)]; exact hy1
      have hs := sumL_succ xs ys k
      rw [← bit_xor _ _ (bitsOk_at hx k (by omega)) (bitsOk_at hy k (by omega))] at hs
      have l1 : (ad.add k).block < wr.heap.size := by rw [block_add]; omega
      have l2 : (ad'.add k).block < wr.heap.size := by rw [block_add]; omega
      have n1 : (ad.add k).block ≠ wr.heap.size := by omega
      have n2 : (ad'.add k).block ≠ wr.heap.size := by omega
      have k1 : (ad.add k).block < w.heap.size := by rw [block_add]; omega
      have k2 : (ad'.add k).block < w.heap.size := by rw [block_add]; omega
      clear hx1 hy1
      generalize hX : xs.getD k 0 = x at p1 hs
      generalize hY : ys.getD k 0 = y at p2 hs
      have Hs := Lib.hid hs; clear hs
      have HX := Lib.hid hX; have HY := Lib.hid hY; clear hX hY
      have b0 : (0 : Int) ≤ (k : Int) := by omega
      have b1 : (k : Int) < n := by omega
      have b2 : k < n := hlt
      clear h h' hx hy c1
      go_upto_region 8 with fail
      go_region_held_law (fun w' => w'.cell? (ad.add k) = some (.int .i64 x) ∧ w'.cell? (ad'.add k) = some (.int .i64 y)) (go_keep)
        (first | (refine step_app rfl _ _ 29 rfl w.heap.size Try.underlying29 int_info _ (sumL xs ys k) rfl (hown.drew.alloc _) _ _ 1 1 [bits .xor .i64 x y] rfl (lit_ints wr.drew [bits .xor .i64 x y] 2 (by simp)) (by simp; omega) (by simp; omega) ?_; intro v' w' hown' hg' _; have hb' := app_below' (below_drewN hb 1) (Nat.le_refl _) hsz hown.drew hg'; have z1 : w'.cell? (ad.add k) = some (.int .i64 x) := (hb'.cell k1).trans ((hb.cell k1).symm.trans p1); have z2 : w'.cell? (ad'.add k) = some (.int .i64 y) := (hb'.cell k2).trans ((hb.cell k2).symm.trans p2)))
      have hb' := app_below' (below_drewN hb 1) (Nat.le_refl _) hsz hown.drew hg'
      go_wp2
      go_roundw
      case rel => exact ⟨k + 1, by omega, by go_num, by rw [Hs.out]; exact hown', hb'⟩
      case measure => simp [intOf]; omega
    · have hk' : k = n := by omega
      subst hk'
      go_wp2
      go_ret2
      exact ⟨_, rfl, hown, hb⟩
/-- A list with some bits turned. -/
def flipL (xs ks : List Int) : List Int := ks.foldl (fun l k => l.set k.toNat (1 - l.getD k.toNat 0)) xs
theorem flipL_len (ks : List Int) : ∀ xs : List Int, (flipL xs ks).length = xs.length := by
  induction ks with
  | nil => intro xs; rfl
  | cons k ks ih => intro xs; show (flipL _ ks).length = _; rw [ih]; simp
theorem flipL_take (xs ks : List Int) (j : Nat) (h : j < ks.length) : flipL xs (ks.take (j + 1)) = (flipL xs (ks.take j)).set (ks.getD j 0).toNat (1 - (flipL xs (ks.take j)).getD (ks.getD j 0).toNat 0) := by
  rw [take_succ_getD ks j h]
  unfold flipL
  rw [List.foldl_append]
  rfl
theorem flip_diff (xs ys : List Int) (n : Nat) : ∀ k, k ≤ n → flipL (List.replicate n 0) (diffL xs ys k) = sumL xs ys k ++ List.replicate (n - k) 0 := by
  intro k
  induction k with
  | zero => intro _; simp [diffL, sumL, flipL]
  | succ k ih =>
    intro hk
    have ih := ih (by omega)
    rw [diffL_succ, sumL_succ]
    have hr : List.replicate (n - k) (0 : Int) = 0 :: List.replicate (n - (k + 1)) 0 := by
      rw [show n - k = (n - (k + 1)) + 1 by omega, List.replicate_succ]
    by_cases hxy : xs.getD k 0 = ys.getD k 0
    · rw [if_neg (by simpa using hxy), if_pos hxy, ih, hr]
      simp
    · rw [if_pos hxy, if_neg hxy]
      unfold flipL at ih ⊢
      rw [List.foldl_append, ih]
      simp only [List.foldl_cons, List.foldl_nil, Int.toNat_natCast]
      rw [hr]
      have e1 : (sumL xs ys k ++ (0 :: List.replicate (n - (k + 1)) 0)).getD k 0 = 0 := by
        rw [List.getD_eq_getElem?_getD, List.getElem?_append_right (by rw [sumL_len]; exact Nat.le_refl _), sumL_len, Nat.sub_self]; rfl
      rw [e1, List.set_append, sumL_len]
      simp
set_option maxHeartbeats 2000000 in
theorem s_l01Flip (A A' : Option Addr) (n m c c' : Nat) (xs ks : List Int) (B B' : Nat) (w : World) (h : IntsAt w B A n c xs) (h' : IntsAt w B' A' m c' ks) (hB : B ≤ w.heap.size) (hB' : B' ≤ w.heap.size) (hk : ∀ j, j < m → 0 ≤ ks.getD j 0 ∧ ks.getD j 0 < n) (hbit : ∀ j, j < m → ∀ p, 0 ≤ (flipL xs (ks.take j)).getD p 0 ∧ (flipL xs (ks.take j)).getD p 0 ≤ 1) :
    Calls Try.prog 90 #[.slice A n c, .slice A' m c'] w fun e w' => ∃ v, e = .returned v ∧ IOwn w' w.heap.size v (flipL xs ks) ∧ Below w.heap.size w w' := by
  have hn := h.small
  have hm := h'.small
  have hl := h.len
  have hl' := h'.len
  go_enter Try.func90, Try.ntmps90
  go_wp2_with (at_builtin; refine wpList_app _ rfl _ _ 29 rfl w.heap.size Try.underlying29 int_info _ [] rfl (lit_own w [] _ (Nat.le_refl _) (by simp)) _ _ _ _ xs rfl (h.alloc hB _) (by simp; omega) (by simp) ?_; intro v0 w0 hown0 hg0 _)
  have hb0 : Below w.heap.size w w0 := ((Below.refl _ _).alloc (Nat.le_refl _) _).grown hg0 (by simp) (fun k hk => ((lit_own w [] _ (Nat.le_refl _) (by simp)).lt k hk).1)
  rw [List.nil_append] at hown0
  obtain ⟨A0, c0, rfl, hc0, hm0, hA0⟩ := hown0.form
  have h0 : w0.ownsRow w.heap.size 2 1 (.slice A0 n c0) n ((flipL xs (ks.take 0)).map (Value.int .i64)) := by rw [← hl]; exact hown0
  try rw [hl]
  clear hown0 hc0 hg0
  go_wp2
  go_loopw [6] (fun i wr => ∃ j : Nat, j ≤ m ∧ i = .int .i64 j ∧ wr.ownsRow w.heap.size 2 1 (.slice A0 n c0) n ((flipL xs (ks.take j)).map (Value.int .i64)) ∧ Below w.heap.size w wr) (fun i _ => m - (intOf i).toNat)
  case atStart => exact ⟨0, by omega, rfl, h0, hb0⟩
  case round =>
    clear h0 hb0
    obtain ⟨j, hj, rfl, hown, hb⟩ := hrel
    have hsz := hb.size
    by_cases hlt : j < m
    · obtain ⟨ad', rfl, hab', hy1⟩ := h'.at_ j hlt
      have p2 : wr.cell? (ad'.add j) = some (.int .i64 (ks.getD j 0)) := by rw [hb.cell (by rw [block_add]; omega)]; exact hy1
      obtain ⟨k0, k1⟩ := hk j hlt
      have hst := flipL_take xs ks j (by omega)
      have hfl : (flipL xs (ks.take j)).length = n := by rw [flipL_len]; exact hl
      have hbj := hbit j hlt (ks.getD j 0).toNat
      clear hy1 h h' hk hbit
      generalize hY : ks.getD j 0 = y at p2 hst k0 k1 hbj
      obtain ⟨p, rfl⟩ := Int.eq_ofNat_of_zero_le k0
      rw [Int.toNat_natCast] at hst hbj
      rcases hA0 with ⟨rfl, hx0, rfl⟩ | ⟨g, rfl, hgb, _⟩
      · have : n = 0 := by rw [← hl, hx0]; rfl
        omega
      · generalize flipL xs (ks.take j) = zs at hown hst hfl hbj
        have p1 : wr.cell? ⟨g, p, none⟩ = some (.int .i64 (zs.getD p 0)) := by
          rw [hown.cellAt p (by omega), List.getElem?_map, List.getElem?_eq_getElem (by omega)]
          simp [List.getD_eq_getElem?_getD, List.getElem?_eq_getElem (show p < zs.length by omega)]
        have pf : wr.frozen? ⟨g, p, none⟩ = false := hown.frozenAt p
        obtain ⟨hnew, _⟩ := hown.stored p (.int .i64 (1 - zs.getD p 0))
        rw [← List.map_set, ← hst] at hnew
        have Hnew := Lib.hid hnew; clear hnew hown hst
        have hb' : Below w.heap.size w (wr.setCell ⟨g, p, none⟩ (.int .i64 (1 - zs.getD p 0))) := hb.setCell (p := ⟨g, p, none⟩) hgb _
        have Hb' := Lib.hid hb'; clear hb'
        generalize zs.getD p 0 = z at p1 hbj Hnew Hb'
        obtain ⟨z0, z1⟩ := hbj
        have b0 : (0 : Int) ≤ (j : Int) := by omega
        have b1 : (j : Int) < m := by omega
        have nb : (ad'.add j).block ≠ g := by rw [block_add]; omega
        go_upto_region 5 with fail
        go_region
        go_wp2
        go_roundw
        case rel => exact ⟨j + 1, by omega, by go_num, Hnew.out, Hb'.out.drew⟩
        case measure => simp [intOf]; omega
    · have hk' : j = m := by omega
      subst hk'
      go_wp2
      go_ret
      refine ⟨_, rfl, ?_, hb⟩
      rw [List.take_of_length_le (by omega)] at hown
      unfold IOwn; rw [flipL_len, hl]; exact hown
end Go.Proofs.Ytecelofoffdjlaa

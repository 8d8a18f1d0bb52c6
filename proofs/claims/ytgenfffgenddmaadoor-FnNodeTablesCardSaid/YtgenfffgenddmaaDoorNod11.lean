/- A table's bytes, the program's text. -/
import Derived.Test.YtgenfffgenddmaaDoorNod10
namespace Go.Proofs.YtgenfffgenddmaaDoor
open Go.RowKit
set_option linter.unusedSimpArgs false
set_option linter.unusedVariables false
theorem step_app {P : Program} {ops : Array Oper} {o : Oper} {a : Act} {w : World} {K : Act → World → Prop} {Q : Exit → Act → World → Prop} {E : Prop}
    (hg : o.guard = none) (s x : Operand) (t : TypeId) (ho : o.op = .call { callee := .builtin .append, args := #[s, x], argTypes := #[t, t] })
    (base : Nat) (ht : P.underlying t = some (.slice 2)) (hinfo : (P.info? 2).map (fun i => (i.zero, i.size, i.bytes)) = some (some (.int .i64 0), 1, 8))
    (v : Value) (xs : List Int) (hs : a.eval s = v) (hown : IOwn w base v xs) (B : Nat) (A : Option Addr) (m c : Nat) (ys : List Int) (hx : a.eval x = .slice A m c) (hr : IntsAt w B A m c ys)
    (hn : xs.length + m ≤ 17179869184) (hbase : base ≤ w.heap.size)
    (h : ∀ v' w', IOwn w' base v' (xs ++ ys) → w.grownBy w' v.ownBlock → (v'.ownBlock = v.ownBlock ∨ v'.ownBlock = some w.heap.size) → K (a.put o.dst v') w') :
    if Region.wanted o (yielded ops a.tmps) = true then Oper.wp P o a w K Q else E := by
  have hw : Region.wanted o (yielded ops a.tmps) = true := by simp [Region.wanted, hg]
  rw [if_pos hw]
  exact wp_app w s x t ho base ht hinfo v xs hs hown B A m c ys hx hr hn hbase h
theorem i_oneIf (b : Bool) (w : World) : Calls Tryd.prog 88 #[.bool b] w fun e w' => e = .returned (.int .i64 (pvZ b)) ∧ w = w' := by
  cases b
  all_goals
    go_enter Tryd.func88, Tryd.ntmps88
    go_wp2
    go_ret
    exact ⟨rfl, rfl⟩
set_option maxHeartbeats 4000000 in
set_option maxRecDepth 100000 in
theorem i_nodeTableBytes (A : Option Addr) (n c : Nat) (L : List Nd) (B : Nat) (w : World) (h : NodesAt w B A n c L) (hB : B ≤ w.heap.size) (ho : ntOk L = true) :
    Calls Tryd.prog 64 #[.slice A n c] w fun e w' => ∃ v, e = .returned v ∧ IOwn w' w.heap.size v (encK L n) ∧ Below w.heap.size w w' := by
  have hl := h.1
  have hn := (ntOk_split ho).1
  rw [hl] at hn
  have hD := Lib.hid (fun (k : Nat) (d : Nd) (hd : L[k]? = some d) => And.intro (ndOk_rng (ntOk_nd ho hd)).2 (ndOk_nm (ntOk_nd ho hd)))
  have hE := Lib.hid (encK_len (L := L) fun k d hd => (hD.out k d hd).2)
  have hE0 := Lib.hid (show encK L 0 = [(n : Int)] by rw [← hl]; rfl)
  clear ho hl
  go_enter Tryd.func64, Tryd.ntmps64
  go_wp2
  go_loopw [3, 12] (fun v i wr => ∃ k : Nat, k ≤ n ∧ i = .int .i64 k ∧ Hid (IOwn wr w.heap.size v (encK L k)) ∧ Below w.heap.size w wr) (fun _ i _ => n - (intOf i).toNat)
  case atStart => exact ⟨0, Nat.zero_le _, rfl, Lib.hid (by rw [hE0.out]; exact lit_own w [(n : Int)] _ (Nat.le_refl _) (by simp)), (Below.refl _ _).alloc (Nat.le_refl _) _⟩
  case round =>
    clear hE0
    obtain ⟨k, hk, rfl, H, hb⟩ := hrel
    have zb := hb.size
    by_cases hlt : k < n
    · obtain ⟨ad, d, rfl, hab, hd, cs, -⟩ := h.at_ k hlt
      obtain ⟨c0, c1, c2, c3⟩ := cs.keep (w' := wr) fun p hp => hb.cell (by rw [hp]; omega)
      obtain ⟨⟨r0, r1⟩, s6⟩ := hD.out k d hd
      have HN := Lib.hid (encK_next hd)
      have hX := hE.out k
      have S := NI.start H.out hb (.cells d.cells 36)
      clear cs hd h H hb
      generalize encK L k = X at *
      obtain ⟨i, s, r, p⟩ := d
      simp only [Nd.cells] at c0 c1 c2 c3 S
      simp only at r0 r1 s6
      go_upto_region 5 with fail
      generalize hg : wr.heap.size = g at *
      generalize World.alloc _ _ = W at *
      clear c0 c1 c2 c3 hg
      have S1 := S.drew
      have zW := S.2.1.size
      have hA := Lib.hid (show [i, IntKind.i64.wrap (r.tdiv 256), r.tmod 256, pvZ p, (s.size : Int)] = [i, r / 256, r % 256, pvZ p, (s.size : Int)] by
        have a2 : r.tdiv 256 = r / 256 := Int.tdiv_eq_ediv_of_nonneg r0
        have a3 : r.tmod 256 = r % 256 := Int.tmod_eq_emod_of_nonneg r0
        have a4 : IntKind.i64.wrap (r / 256) = r / 256 := IntWalk.i64_in _ (by omega)
        rw [a2, a3, a4])
      have HX2 := Lib.hid (show X ++ encNd ⟨i, s, r, p⟩ = X ++ [i, r / 256, r % 256, pvZ p, (s.size : Int)] ++ (encNm s).take s.size by
        rw [List.take_of_length_le (by rw [encNm_len]; omega), List.append_assoc]; rfl)
      have hOne := Lib.hid (fun W => i_oneIf p W)
      obtain ⟨q0, q1, q2, q3⟩ := cells4 S.2.2.1
      clear r0 r1
      go_region_held3 (fun w' => w'.cell? ⟨g, 0, none⟩ = some (.int .i64 i) ∧ w'.cell? ⟨g, 1, none⟩ = some (.string s) ∧ w'.cell? ⟨g, 2, none⟩ = some (.int .i64 r) ∧ w'.cell? ⟨g, 3, none⟩ = some (.bool p)) (go_keep)
        (first | (go_at_call 88; refine (hOne.out _).mono ?_; rintro e w' ⟨rfl, rfl⟩) | (refine step_app rfl _ _ 22 rfl w.heap.size Tryd.underlying22 int_info _ X rfl (S1.1.alloc _) _ _ 5 5 [i, IntKind.i64.wrap (r.tdiv 256), r.tmod 256, pvZ p, (s.size : Int)] rfl (lit_ints _ [i, IntKind.i64.wrap (r.tdiv 256), r.tmod 256, pvZ p, (s.size : Int)] 2 (by simp)) (by omega) (by show _ ≤ (World.alloc _ _).heap.size; rw [World.size_alloc]; omega) ?_; intro v' w' O' g' ob'; have S2 := S1.app g' O' ob'; obtain ⟨z0, z1, z2, z3⟩ := cells4 S2.2.2.1))
      rw [hA.out] at S2
      clear q0 q1 q2 q3 O' g' ob' S S1 zW
      have hcut := Lib.hid S2
      generalize pvZ p = z at *
      have hX5 : (X ++ [i, r / 256, r % 256, z, (s.size : Int)]).length = X.length + 5 := by simp
      generalize X ++ [i, r / 256, r % 256, z, (s.size : Int)] = Y at *
      clear S2 hA
      generalize IntKind.i64.wrap (r.tdiv 256) = y1 at *
      generalize r.tmod 256 = y2 at *
      go_wp2
      go_loopw [3, 36] (fun v ji wj => ∃ j : Nat, j ≤ s.size ∧ ji = .int .i64 j ∧ Hid (NI w g (.cells #[.int .i64 i, .string s, .int .i64 r, .bool p] 36) wj v (Y ++ (encNm s).take j))) (fun _ ji _ => s.size - (intOf ji).toNat)
      case atStart => exact ⟨0, Nat.zero_le _, rfl, Lib.hid (by simpa using hcut.out)⟩
      case round =>
        clear hcut
        obtain ⟨j, hj, rfl, HS⟩ := hrel
        obtain ⟨q0, q1, q2, q3⟩ := cells4 HS.out.2.2.1
        by_cases hjs : j < s.size
        · have HT := Lib.hid (encNm_next hjs)
          have S := HS.out
          have zW := S.2.1.size
          have hll : (Y ++ (encNm s).take j).length ≤ 400 := by rw [List.length_append, List.length_take]; omega
          generalize hZ : Y ++ (encNm s).take j = Z at *
          have HZ := Lib.hid hZ
          clear hZ
          have hb1 : (s[j]'hjs).toNat < 256 := (s[j]'hjs).toNat_lt
          have hb2 : wrap64 (((s[j]'hjs).toNat : Nat) : Int) = (((s[j]'hjs).toNat : Nat) : Int) := IntWalk.wrap64_in _ ⟨by omega, by omega⟩
          have j0 : (0 : Int) ≤ (j : Int) := by omega
          have j1 : (j : Int) < (s.size : Int) := by omega
          go_wp2_with (at_builtin; refine wpList_app _ rfl _ _ 22 rfl w.heap.size Tryd.underlying22 int_info _ Z rfl (S.1.alloc _) _ _ 1 1 [(((s[j]'hjs).toNat : Nat) : Int)] rfl (lit_ints _ [(((s[j]'hjs).toNat : Nat) : Int)] 2 (by simp)) (by omega) (by rw [World.size_alloc]; omega) ?_; intro v2 w2 O2 g2 ob2)
          have S2 := S.app g2 O2 ob2
          go_roundw
          case rel => exact ⟨j + 1, by omega, by go_num, Lib.hid (by rw [HT.out, ← List.append_assoc, HZ.out]; exact S2)⟩
          case measure => simp [intOf]; omega
        · obtain rfl : j = s.size := by omega
          have S := HS.out
          go_wp2
          go_roundw
          case rel => exact ⟨k + 1, by omega, by go_num, Lib.hid (by rw [HN.out, HX2.out]; exact S.1), S.2.1⟩
          case measure => simp [intOf]; omega
    · obtain rfl : k = n := by omega
      go_wp2
      go_ret
      exact ⟨_, rfl, H.out, hb⟩
end Go.Proofs.YtgenfffgenddmaaDoor

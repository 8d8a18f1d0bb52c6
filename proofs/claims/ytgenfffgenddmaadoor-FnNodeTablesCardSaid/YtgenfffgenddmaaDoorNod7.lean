/- WorstDrift, both texts. -/
import Derived.Test.YtgenfffgenddmaaDoorNod6
namespace Go.Proofs.YtgenfffgenddmaaDoor
open Go.RowKit
set_option linter.unusedSimpArgs false
set_option linter.unusedVariables false
theorem ntK_all {L : List Nd} {n k : Nat} {d : Nd} (h : ntK L n = true) (hk : k < n) (hd : L[k]? = some d) : ntStep L k d = true := by
  cases e : ntStep L k d
  · rw [ntK_bad hd e hk] at h; cases h
  · rfl
theorem ntOk_split {L : List Nd} (h : ntOk L = true) : (1 ≤ L.length ∧ L.length ≤ 32) ∧ ntK L L.length = true := by
  unfold ntOk at h
  rw [Bool.and_eq_true, decide_eq_true_eq] at h
  exact h
theorem ntOk_nd {L : List Nd} {k : Nat} {d : Nd} (h : ntOk L = true) (hd : L[k]? = some d) : ndOk d = true := by
  have := ntK_all (ntOk_split h).2 (List.getElem?_eq_some_iff.1 hd).1 hd
  unfold ntStep at this
  rw [Bool.and_eq_true, Bool.and_eq_true] at this
  exact this.1.1
theorem ndOk_rng {d : Nd} (h : ndOk d = true) : (0 ≤ d.id ∧ d.id ≤ 31) ∧ (0 ≤ d.dr ∧ d.dr ≤ 1000) := by
  unfold ndOk in31 in1000 at h
  rw [Bool.and_eq_true, Bool.and_eq_true, decide_eq_true_eq, decide_eq_true_eq] at h
  exact ⟨h.1.2, h.2⟩
def wd (q : Int × Int) (r : Int) : Int × Int := if q.1 < r then (r, q.1) else if q.2 < r then (q.1, r) else q
def wdK (L : List Nd) : Nat → Int × Int
  | 0 => (0, 0)
  | k + 1 => match L[k]? with | some d => wd (wdK L k) d.dr | none => wdK L k
def wdV (q : Int × Int) (t : Int) : Int := ((q.1 + q.2) * t + 999999).tdiv 1000000
def wdOut (L : List Nd) (t : Int) : Int × Int := if ntOk L = false then (0, 1) else if decide (0 ≤ t ∧ t ≤ 65535) = false then (0, 2) else (wdV (wdK L L.length) t, 0)
theorem wdK_next {L : List Nd} {k : Nat} {d : Nd} {x y : Int} (h : wdK L k = (x, y)) (hd : L[k]? = some d) : wdK L (k + 1) = wd (x, y) d.dr := by simp [wdK, h, hd]
theorem wd_1 {x y r : Int} (h : x < r) : wd (x, y) r = (r, x) := by simp [wd, h]
theorem wd_2 {x y r : Int} (h : ¬ x < r) (h2 : y < r) : wd (x, y) r = (x, r) := by simp [wd, h, h2]
theorem wd_3 {x y r : Int} (h : ¬ x < r) (h2 : ¬ y < r) : wd (x, y) r = (x, y) := by simp [wd, h, h2]
theorem wd_mul {x y t : Int} (hx : 0 ≤ x ∧ x ≤ 1000) (hy : 0 ≤ y ∧ y ≤ 1000) (ht : 0 ≤ t ∧ t ≤ 65535) : 0 ≤ (x + y) * t ∧ (x + y) * t ≤ 131070000 := by
  refine ⟨Int.mul_nonneg (by omega) (by omega), ?_⟩
  calc (x + y) * t ≤ 2000 * t := Int.mul_le_mul_of_nonneg_right (by omega) (by omega)
    _ ≤ 131070000 := by omega
theorem wd_div {m : Int} (h : 0 ≤ m ∧ m ≤ 131070000) : IntKind.i64.wrap ((m + 999999).tdiv 1000000) = (m + 999999).tdiv 1000000 := by
  apply IntWalk.i64_in
  rw [Int.tdiv_eq_ediv_of_nonneg (by omega)]
  omega
theorem wdOut_no {L : List Nd} {t : Int} (h : ntOk L = false) : wdOut L t = (0, 1) := by simp [wdOut, h]
theorem wdOut_t {L : List Nd} {t : Int} (h : ntOk L = true) (ht : decide (0 ≤ t ∧ t ≤ 65535) = false) : wdOut L t = (0, 2) := by unfold wdOut; rw [if_neg (by simp [h]), if_pos ht]
theorem wdOut_v {L : List Nd} {n : Nat} {t x y : Int} (hl : L.length = n) (h : ntOk L = true) (ht : decide (0 ≤ t ∧ t ≤ 65535) = true) (hw : wdK L n = (x, y)) : wdOut L t = (wdV (x, y) t, 0) := by
  subst hl; unfold wdOut; rw [if_neg (by simp [h]), if_neg (by simp [ht]), hw]
set_option maxHeartbeats 2000000 in
theorem s_WorstDrift (A : Option Addr) (n c : Nat) (L : List Nd) (t : Int) (B : Nat) (w : World) (h : NodesAt w B A n c L) (hB : B ≤ w.heap.size) :
    Calls Tryd.prog 33 #[.slice A n c, .int .i64 t] w fun e w' => e = .returned (.tuple #[.int .i64 (wdOut L t).1, .int .i64 (wdOut L t).2]) ∧ Below w.heap.size w w' := by
  have hn := h.2.2.1
  have hnc := h.2.1
  have hl := h.1
  have hT := Lib.hid (s_IsNodeTable A n c L B w h hB)
  have hU := Lib.hid (fun b hb W => s_l01In_b t 0 65535 b W hb)
  cases ho : ntOk L
  · have hX := Lib.hid (wdOut_no (t := t) ho)
    rw [ho] at hT
    clear ho hl hU
    go_enter Tryd.func33, Tryd.ntmps33
    go_wp2_with fail
    refine hT.out.mono ?_
    rintro e w1 ⟨rfl, b1⟩
    go_wp2
    go_ret2
    exact ⟨by rw [hX.out]; rfl, b1⟩
  rw [ho] at hT
  cases ht : decide ((0 : Int) ≤ t ∧ t ≤ 65535)
  · have hX := Lib.hid (wdOut_t ho ht)
    have hC := Lib.hid (hU.out false ht)
    clear ho hl hU ht
    go_enter Tryd.func33, Tryd.ntmps33
    go_wp2_with fail
    refine hT.out.mono ?_
    rintro e w1 ⟨rfl, b1⟩
    go_wp2_with (go_at_call 53; refine (hC.out _).mono ?_; rintro e w' ⟨rfl, rfl⟩)
    go_ret2
    exact ⟨by rw [hX.out]; rfl, b1⟩
  have hX := Lib.hid (fun x y hw => wdOut_v (x := x) (y := y) hl ho ht hw)
  have hC := Lib.hid (hU.out true ht)
  have ht2 := Lib.hid (show 0 ≤ t ∧ t ≤ 65535 by simpa using ht)
  have hD := Lib.hid (fun (k : Nat) (d : Nd) hd => (ndOk_rng (ntOk_nd (k := k) (d := d) ho hd)).2)
  clear ho hl hU ht
  go_enter Tryd.func33, Tryd.ntmps33
  go_wp2_with fail
  refine hT.out.mono ?_
  rintro e w1 ⟨rfl, b1⟩
  clear hT
  have B1 := Lib.hid b1
  go_wp2_with (go_at_call 53; refine (hC.out _).mono ?_; rintro e w' ⟨rfl, rfl⟩)
  go_loopw [6, 7, 8] (fun a b i wr => ∃ (k : Nat) (x y : Int), k ≤ n ∧ i = .int .i64 k ∧ a = .int .i64 x ∧ b = .int .i64 y ∧ 0 ≤ x ∧ x ≤ 1000 ∧ 0 ≤ y ∧ y ≤ 1000 ∧ Hid (wdK L k = (x, y)) ∧ wr = w1) (fun _ _ i _ => n - (intOf i).toNat)
  case atStart => exact ⟨0, 0, 0, Nat.zero_le _, rfl, rfl, rfl, by omega, by omega, by omega, by omega, Lib.hid rfl, rfl⟩
  case round =>
    clear hC
    obtain ⟨k, x, y, hk, rfl, rfl, rfl, x0, x1, y0, y1, H, rfl⟩ := hrel
    by_cases hlt : k < n
    · obtain ⟨ad, d, rfl, hab, hd, cs, -⟩ := h.at_ k hlt
      have c2 := (cs.keep (w' := wr) fun p hp => b1.cell (by rw [hp]; omega)).2.2.1
      have HN := Lib.hid (wdK_next H.out hd)
      obtain ⟨r0, r1⟩ := hD.out k d hd
      clear cs hd h hD H b1
      generalize d.dr = r at *
      have k0 : (0 : Int) ≤ (k : Int) := by omega
      have k1 : (k : Int) < (n : Int) := by omega
      by_cases p : x < r
      · have HW := Lib.hid (HN.out.trans (wd_1 p))
        have p' : decide (x < r) = true := by simpa using p
        go_wp2
        go_roundw
        case rel => exact ⟨k + 1, _, _, by omega, by go_num, rfl, rfl, r0, r1, x0, x1, HW, trivial⟩
        case measure => simp [intOf]; omega
      · have p' : decide (x < r) = false := by simpa using p
        by_cases q : y < r
        · have HW := Lib.hid (HN.out.trans (wd_2 p q))
          have q' : decide (y < r) = true := by simpa using q
          go_wp2
          go_roundw
          case rel => exact ⟨k + 1, _, _, by omega, by go_num, rfl, rfl, x0, x1, r0, r1, HW, trivial⟩
          case measure => simp [intOf]; omega
        · have HW := Lib.hid (HN.out.trans (wd_3 p q))
          have q' : decide (y < r) = false := by simpa using q
          go_wp2
          go_roundw
          case rel => exact ⟨k + 1, _, _, by omega, by go_num, rfl, rfl, x0, x1, y0, y1, HW, trivial⟩
          case measure => simp [intOf]; omega
    · obtain rfl : k = n := by omega
      have HX := Lib.hid (hX.out x y H.out)
      have hm := wd_mul (x := x) (y := y) ⟨x0, x1⟩ ⟨y0, y1⟩ ht2.out
      have w1 : IntKind.i64.wrap (x + y) = x + y := IntWalk.i64_in _ (by omega)
      have w2 : IntKind.i64.wrap ((x + y) * t) = (x + y) * t := IntWalk.i64_in _ (by omega)
      have w3 : IntKind.i64.wrap ((x + y) * t + 999999) = (x + y) * t + 999999 := IntWalk.i64_in _ (by omega)
      have w4 := wd_div hm
      clear h hX H hD hm
      go_wp2
      go_ret2
      exact ⟨by rw [HX.out]; rfl, b1⟩
set_option maxHeartbeats 2000000 in
theorem i_worstDrift (A : Option Addr) (n c : Nat) (L : List Nd) (t : Int) (B : Nat) (w : World) (h : NodesAt w B A n c L) (hB : B ≤ w.heap.size) (ho : ntOk L = true) (ht2 : Hid (0 ≤ t ∧ t ≤ 65535)) :
    Calls Tryd.prog 62 #[.slice A n c, .int .i64 t] w fun e w' => e = .returned (.int .i64 (wdV (wdK L n) t)) ∧ Below w.heap.size w w' := by
  have hn := h.2.2.1
  have hD := Lib.hid (fun (k : Nat) (d : Nd) hd => (ndOk_rng (ntOk_nd (k := k) (d := d) ho hd)).2)
  clear ho
  go_enter Tryd.func62, Tryd.ntmps62
  go_wp2
  go_loopw [5, 6, 11] (fun a b i wr => ∃ (k : Nat) (x y : Int), k ≤ n ∧ i = .int .i64 k ∧ a = .int .i64 x ∧ b = .int .i64 y ∧ 0 ≤ x ∧ x ≤ 1000 ∧ 0 ≤ y ∧ y ≤ 1000 ∧ Hid (wdK L k = (x, y)) ∧ Below w.heap.size w wr) (fun _ _ i _ => n - (intOf i).toNat)
  case atStart => exact ⟨0, 0, 0, Nat.zero_le _, rfl, rfl, rfl, by omega, by omega, by omega, by omega, Lib.hid rfl, Below.refl _ _⟩
  case round =>
    obtain ⟨k, x, y, hk, rfl, rfl, rfl, x0, x1, y0, y1, H, hb⟩ := hrel
    have zb := hb.size
    by_cases hlt : k < n
    · obtain ⟨ad, d, rfl, hab, hd, cs, -⟩ := h.at_ k hlt
      obtain ⟨c0, c1, c2, c3⟩ := cs.keep (w' := wr) fun p hp => hb.cell (by rw [hp]; omega)
      have hb1 := hb.alloc zb (.cells d.cells 36)
      have R1 := heap_alloc_new wr (.cells d.cells 36)
      have HN := Lib.hid (wdK_next H.out hd)
      obtain ⟨r0, r1⟩ := hD.out k d hd
      clear cs hd h hD H hb
      obtain ⟨i, s, r, pv⟩ := d
      simp only [Nd.cells] at hb1 R1 c0 c1 c2 c3 HN r0 r1
      go_upto_region 5 with fail
      obtain ⟨q0, q1, q2, q3⟩ := cells4 R1
      generalize World.alloc _ _ = W at *
      generalize wr.heap.size = g at *
      clear c0 c1 c2 c3
      by_cases p : x < r
      · have HW := Lib.hid (HN.out.trans (wd_1 p))
        have p' : decide (x < r) = true := by simpa using p
        go_wp2
        go_roundw
        case rel => exact ⟨k + 1, _, _, by omega, by go_num, rfl, rfl, r0, r1, x0, x1, HW, hb1⟩
        case measure => simp [intOf]; omega
      · have p' : decide (x < r) = false := by simpa using p
        by_cases q : y < r
        · have HW := Lib.hid (HN.out.trans (wd_2 p q))
          have q' : decide (y < r) = true := by simpa using q
          have q2 : ¬ r < y := by omega
          have q3 : ¬ r ≤ y := by omega
          go_wp2
          go_roundw
          case rel => exact ⟨k + 1, x, r, by omega, by go_num, rfl, by simp; omega, x0, x1, r0, r1, HW, hb1⟩
          case measure => simp [intOf]; omega
        · have HW := Lib.hid (HN.out.trans (wd_3 p q))
          have q' : decide (y < r) = false := by simpa using q
          have q2 : r ≤ y := by omega
          go_wp2
          go_roundw
          case rel => exact ⟨k + 1, x, y, by omega, by go_num, rfl, by simp; omega, x0, x1, y0, y1, HW, hb1⟩
          case measure => simp [intOf]; omega
    · obtain rfl : k = n := by omega
      have HX := Lib.hid (show wdV (wdK L k) t = wdV (x, y) t by rw [H.out])
      have hm := wd_mul (x := x) (y := y) ⟨x0, x1⟩ ⟨y0, y1⟩ ht2.out
      have w1 : IntKind.i64.wrap (x + y) = x + y := IntWalk.i64_in _ (by omega)
      have w2 : IntKind.i64.wrap ((x + y) * t) = (x + y) * t := IntWalk.i64_in _ (by omega)
      have w3 : IntKind.i64.wrap ((x + y) * t + 999999) = (x + y) * t + 999999 := IntWalk.i64_in _ (by omega)
      have w4 := wd_div hm
      clear h H hD hm
      go_wp2
      go_ret
      exact ⟨by rw [HX.out]; rfl, hb⟩
set_option maxHeartbeats 1000000 in
theorem i_WorstDrift (A : Option Addr) (n c : Nat) (L : List Nd) (t : Int) (B : Nat) (w : World) (h : NodesAt w B A n c L) (hB : B ≤ w.heap.size) :
    Calls Tryd.prog 34 #[.slice A n c, .int .i64 t] w fun e w' => e = .returned (.tuple #[.int .i64 (wdOut L t).1, .int .i64 (wdOut L t).2]) ∧ Below w.heap.size w w' := by
  have hl := h.1
  have hT := Lib.hid (i_IsNodeTable A n c L B w h hB)
  have hU := Lib.hid (fun b hb W => i_within_b t 0 65535 b W hb)
  cases ho : ntOk L
  · have hX := Lib.hid (wdOut_no (t := t) ho)
    rw [ho] at hT
    clear ho hl hU h
    go_enter Tryd.func34, Tryd.ntmps34
    go_wp2_with fail
    refine hT.out.mono ?_
    rintro e w1 ⟨rfl, b1⟩
    go_wp2
    go_ret2
    exact ⟨by rw [hX.out]; rfl, b1⟩
  rw [ho] at hT
  cases ht : decide ((0 : Int) ≤ t ∧ t ≤ 65535)
  · have hX := Lib.hid (wdOut_t ho ht)
    have hC := Lib.hid (hU.out false ht)
    clear ho hl hU ht h
    go_enter Tryd.func34, Tryd.ntmps34
    go_wp2_with fail
    refine hT.out.mono ?_
    rintro e w1 ⟨rfl, b1⟩
    go_wp2_with (go_at_call 56; refine (hC.out _).mono ?_; rintro e w' ⟨rfl, rfl⟩)
    go_ret2
    exact ⟨by rw [hX.out]; rfl, b1⟩
  have hX := Lib.hid (wdOut_v (x := (wdK L n).1) (y := (wdK L n).2) hl ho ht rfl)
  have hC := Lib.hid (hU.out true ht)
  have ht2 := Lib.hid (show 0 ≤ t ∧ t ≤ 65535 by simpa using ht)
  have hV := Lib.hid (fun (W : World) (hw : Below w.heap.size w W) => i_worstDrift A n c L t B W (h.below' hB hw) (Nat.le_trans hB hw.size) ho ht2)
  clear ho hl hU ht h
  go_enter Tryd.func34, Tryd.ntmps34
  go_wp2_with fail
  refine hT.out.mono ?_
  rintro e w1 ⟨rfl, b1⟩
  clear hT
  have hV1 := Lib.hid (hV.out w1 b1)
  clear hV
  generalize wdK L n = q at *
  go_wp2_with (first | (go_at_call 56; refine (hC.out _).mono ?_; rintro e w' ⟨rfl, rfl⟩) | (go_at_call 62; refine hV1.out.mono ?_; rintro e w2 ⟨rfl, b2⟩))
  go_ret2
  exact ⟨by rw [hX.out]; rfl, b1.trans (b2.mono b1.size)⟩
end Go.Proofs.YtgenfffgenddmaaDoor

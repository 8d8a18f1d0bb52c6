/- IsNodeTable, both texts. -/
import Derived.Test.YtgenfffgenddmaaDoorNod4
import Derived.Lib.QuietBelow
import Derived.BigQuiet
namespace Go.Proofs.YtgenfffgenddmaaDoor
open Go.RowKit
set_option linter.unusedSimpArgs false
set_option linter.unusedVariables false
def sameNm (a b : ByteArray) : Bool := a.toList == b.toList
def idAt (L : List Nd) (k : Nat) : Int := match L[k]? with | some d => d.id | none => 0
def hasNm (L : List Nd) (s : ByteArray) : Bool := L.any fun d => sameNm d.nm s
def ntStep (L : List Nd) (k : Nat) (d : Nd) : Bool := ndOk d && (k == 0 || decide (idAt L (k - 1) < d.id)) && !hasNm (L.take k) d.nm
def ntK (L : List Nd) : Nat → Bool
  | 0 => true
  | k + 1 => ntK L k && (match L[k]? with | some d => ntStep L k d | none => true)
def ntOk (L : List Nd) : Bool := decide (1 ≤ L.length ∧ L.length ≤ 32) && ntK L L.length
theorem ntK_mono {L : List Nd} {j k : Nat} (hjk : j ≤ k) (h : ntK L j = false) : ntK L k = false := by
  induction k with
  | zero => obtain rfl : j = 0 := by omega
            exact h
  | succ k ih =>
    by_cases e : j = k + 1
    · subst e; exact h
    · simp [ntK, ih (by omega)]
theorem ntK_next {L : List Nd} {k : Nat} {d : Nd} (h : ntK L k = true) (hd : L[k]? = some d) (ho : ntStep L k d = true) : ntK L (k + 1) = true := by simp [ntK, h, hd, ho]
theorem ntK_bad {L : List Nd} {n k : Nat} {d : Nd} (hd : L[k]? = some d) (ho : ntStep L k d = false) (hk : k < n) : ntK L n = false :=
  ntK_mono (j := k + 1) hk (by simp [ntK, hd, ho])
theorem ntOk_no {L : List Nd} {n : Nat} (hn : L.length = n) (h : ntK L n = false) : ntOk L = false := by subst hn; simp [ntOk, h]
theorem ntOk_of {L : List Nd} {n : Nat} (hn : L.length = n) (h : ntK L n = true) : ntOk L = decide (1 ≤ n ∧ n ≤ 32) := by subst hn; simp [ntOk, h]
theorem st_bad1 {L : List Nd} {k : Nat} {d : Nd} (h : ndOk d = false) : ntStep L k d = false := by simp [ntStep, h]
theorem st_bad2 {L : List Nd} {k : Nat} {d : Nd} (h0 : 0 < k) (h : d.id ≤ idAt L (k - 1)) : ntStep L k d = false := by
  have a : decide (idAt L (k - 1) < d.id) = false := by simp only [decide_eq_false_iff_not]; omega
  have b : (k == 0) = false := by simp; omega
  simp [ntStep, a, b]
theorem st_bad3 {L : List Nd} {k : Nat} {d : Nd} (h : hasNm (L.take k) d.nm = true) : ntStep L k d = false := by simp [ntStep, h]
theorem st_ok {L : List Nd} {k : Nat} {d : Nd} (h1 : ndOk d = true) (h2 : 0 < k → idAt L (k - 1) < d.id) (h3 : hasNm (L.take k) d.nm = false) : ntStep L k d = true := by
  have a : (k == 0 || decide (idAt L (k - 1) < d.id)) = true := by
    by_cases h : k = 0
    · simp [h]
    · simp [h, h2 (by omega)]
  unfold ntStep
  rw [h1, h3, a]; rfl
theorem idAt_eq {L : List Nd} {k : Nat} {d : Nd} (h : L[k]? = some d) : idAt L k = d.id := by simp [idAt, h]
theorem i_same (d : Nd) (g : Nat) (nm : ByteArray) (w : World) (hg : g < w.heap.size) (h : w.cell? ⟨g, 1, none⟩ = some (.string nm)) :
    Calls Tryd.prog 58 #[.agg d.cells, .pointer (some ⟨g, 0, none⟩)] w fun e w' => e = .returned (.bool (sameNm d.nm nm)) ∧ Below w.heap.size w w' := by
  obtain ⟨i, s, r, p⟩ := d
  unfold Nd.cells
  have hs := Lib.hid (show sameNm s nm = (s.toList == nm.toList) from rfl)
  have hn : g ≠ w.heap.size := by omega
  go_enter Tryd.func58, Tryd.ntmps58
  go_wp2
  go_ret
  exact ⟨by simp [hs.out], (Below.refl _ _).alloc (Nat.le_refl _) _⟩
set_option maxHeartbeats 4000000 in
theorem i_IsNodeTable (A : Option Addr) (n c : Nat) (L : List Nd) (B : Nat) (w : World) (h : NodesAt w B A n c L) (hB : B ≤ w.heap.size) :
    Calls Tryd.prog 27 #[.slice A n c] w fun e w' => e = .returned (.bool (ntOk L)) ∧ Below w.heap.size w w' := by
  have hn := h.2.2.1
  have hnc := h.2.1
  have hl := h.1
  have hNo := Lib.hid (fun hh => ntOk_no (L := L) hl hh)
  have hOf := Lib.hid (fun hh => ntOk_of (L := L) hl hh)
  clear hl
  go_enter Tryd.func27, Tryd.ntmps27
  go_wp2
  go_loopw [7] (fun i wr => ∃ k : Nat, k ≤ n ∧ i = .int .i64 k ∧ Hid (ntK L k = true) ∧ Below w.heap.size w wr) (fun i _ => n - (intOf i).toNat)
  case atStart => exact ⟨0, Nat.zero_le _, rfl, Lib.hid rfl, Below.refl _ _⟩
  case round =>
    obtain ⟨k, hk, rfl, H, hb⟩ := hrel
    have zb := hb.size
    by_cases hlt : k < n
    · obtain ⟨ad, d, rfl, hab, hd, cs, hs⟩ := h.at_ k hlt
      obtain ⟨c0, c1, c2, c3⟩ := cs.keep (w' := wr) fun p hp => hb.cell (by rw [hp]; omega)
      have hb1 := hb.alloc zb (.cells d.cells 36)
      have R1 := heap_alloc_new wr (.cells d.cells 36)
      have HY := Lib.hid (fun ho => ntK_next H.out hd ho)
      have HN := Lib.hid (fun ho => ntK_bad hd ho hlt)
      have HI := Lib.hid (fun W => i_IsNodeInfo d W (by unfold maxLen; omega))
      have HP := Lib.hid (fun (h0 : 0 < k) => h.at_ (k - 1) (by omega))
      have HT := Lib.hid ((h.below' hB hb1).cutTo k hk)
      have HIA := Lib.hid (fun (e : Nd) (he : L[k - 1]? = some e) => idAt_eq he)
      have hS1 := Lib.hid (fun hh => hNo.out (HN.out (st_bad1 hh)))
      have hS2 := Lib.hid (fun h0 hh => hNo.out (HN.out (st_bad2 h0 hh)))
      have hS3 := Lib.hid (fun hh => hNo.out (HN.out (st_bad3 hh)))
      have hS0 := Lib.hid (fun h1 h2 h3 => HY.out (st_ok h1 h2 h3))
      have HK := Lib.hid (fun (W : World) (b : Below w.heap.size w W) (e : Nd) (he : ndCells w ad (k - 1) e) => he.keep (w' := W) fun p hp => b.cell (by rw [hp]; omega))
      clear cs hd h hNo HY HN
      have hkc : (k : Int) ≤ (c : Int) := by omega
      have hlen : (L.take k).length ≤ k := List.length_take_le _ _
      obtain ⟨i, s, r, p⟩ := d
      simp only [Nd.cells] at hb1 R1 HI c0 c1 c2 c3 HT hS1 hS2 hS3 hS0 hs
      go_upto_region 4 with fail
      obtain ⟨q0, q1, q2, q3⟩ := cells4 R1
      have HB1 := Lib.hid hb1
      have hz1 : wr.heap.size < (wr.alloc (.cells #[.int .i64 i, .string s, .int .i64 r, .bool p] 36)).heap.size := by simp
      clear hb1 hb
      generalize World.alloc _ _ = W at *
      generalize wr.heap.size = g at *
      clear c0 c1 c2 c3
      have k0 : (0 : Int) ≤ (k : Int) := by omega
      have k1 : (k : Int) < (n : Int) := by omega
      replace HT := Lib.hid HT
      have hBW : B ≤ W.heap.size := by have := HB1.out.size; omega
      have hzW : w.heap.size ≤ W.heap.size := HB1.out.size
      have HC : ∀ dd os, Calls Tryd.prog 23 #[.agg #[.int .i64 i, .string s, .int .i64 r, .bool p]] (Go.Sort.grow (redrawn W dd) os) fun e w'' => e = .returned (.bool (ndOk ⟨i, s, r, p⟩)) ∧ ∃ p : Regrown, w'' = Go.Sort.grow (redrawn W p.d) p.os := fun dd os => Calls.regrown_of ((HI.out _).mono fun e w' h => h)
      have q0' := cell_regrown q0
      have q1' := cell_regrown q1
      have q2' := cell_regrown q2
      have q3' := cell_regrown q3
      clear q0 q1 q2 q3 HI
      generalize ndOk ⟨i, s, r, p⟩ = ok at *
      cases ok
      · have hX := Lib.hid (hS1.out rfl)
        clear hS0 hS1 hS2 hS3 HP HT HIA HK
        refine wp_region_quiet_below (by kernel_rfl) (by kernel_rfl) ?_
        repeat (first | go_big_quiet_step (exact HC _ _) | quiet_step (exact HC _ _))
        refine wpQuiet_nil ?_
        intro _ hw'
        obtain ⟨⟨dq, osq⟩, hw''⟩ := hw'
        subst hw''
        have b2 := below_regrown W dq osq
        generalize Go.Sort.grow (redrawn W dq) osq = w2 at *
        have hb2 : Below w.heap.size w w2 := HB1.out.trans (b2.mono hzW)
        clear R1
        go_wp2
        go_ret
        exact ⟨by rw [hX.out]; rfl, hb2⟩
      · by_cases h0 : 0 < k
        · obtain ⟨ad', e0, ead, -, he0, pcs, -⟩ := HP.out h0
          injection ead with ead
          subst ead
          have hpid := HIA.out e0 he0
          have HPC := Lib.hid (fun (W' : World) (b : Below w.heap.size w W') => (HK.out W' b e0 pcs).1)
          rw [← hpid] at HPC
          have c0 := cell_regrown (HPC.out W HB1.out)
          clear hpid he0 pcs HIA HK HP
          generalize idAt L (k - 1) = pid at *
          have hki : decide ((0 : Int) < (k : Int)) = true := by simp; omega
          have hkn : decide (0 < k) = true := by simp; omega
          have r0 : (0 : Int) ≤ (k : Int) - 1 := by omega
          have r1 : (k : Int) - 1 < (n : Int) := by omega
          have hwk : IntKind.i64.wrap ((k : Int) - 1) = (k : Int) - 1 := IntWalk.i64_in _ (by omega)
          by_cases hp : pid < i
          · have hp' : decide (i ≤ pid) = false := by simp; omega
            have hp2 := Lib.hid hp
            clear hp
            refine wp_region_quiet_below (by kernel_rfl) (by kernel_rfl) ?_
            repeat (first | go_big_quiet_step (exact HC _ _) | quiet_step (exact HC _ _))
            refine wpQuiet_nil ?_
            intro _ hw'
            obtain ⟨⟨dq, osq⟩, hw''⟩ := hw'
            subst hw''
            have b2 := below_regrown W dq osq
            generalize Go.Sort.grow (redrawn W dq) osq = w2 at *
            have hb2 : Below w.heap.size w w2 := HB1.out.trans (b2.mono hzW)
            clear c0 HPC
            have hT2 := HT.out.below' hBW b2
            clear q0' q1' q2' q3' HC
            have q1 := (cells4 ((b2.block g hz1).trans R1)).2.1
            have hC := Lib.hid (l_ContainsNm (some ad) k c (L.take k) (.pointer (some ⟨g, 0, none⟩)) (fun d => sameNm d.nm s) B _ hT2 (Nat.le_trans hBW b2.size) (fun W' d b => i_same d g s W' (Nat.lt_of_lt_of_le hz1 (Nat.le_trans b2.size b.size)) ((b.cell (p := ⟨g, 1, none⟩) (Nat.lt_of_lt_of_le hz1 b2.size)).trans q1)))
            have hz2 := hb2.size
            have HB2 := Lib.hid hb2
            rw [show (L.take k).any (fun d => sameNm d.nm s) = hasNm (L.take k) s from rfl] at hC
            clear hT2 b2 hb2 HT R1
            cases hh : hasNm (L.take k) s
            · rw [hh] at hC
              have hX := Lib.hid (hS0.out rfl (fun _ => hp2.out) hh)
              clear hh hS0 hS1 hS2 hS3
              go_wp2_with fail
              refine hC.out.mono ?_
              rintro e w3 ⟨rfl, b3⟩
              have hb3 := HB2.out.trans (b3.mono hz2)
              go_wp2
              go_roundw
              case rel => exact ⟨k + 1, by omega, by go_num, hX, hb3⟩
              case measure => simp [intOf]; omega
            · rw [hh] at hC
              have hX := Lib.hid (hS3.out hh)
              clear hh hS0 hS1 hS2 hS3
              go_wp2_with fail
              refine hC.out.mono ?_
              rintro e w3 ⟨rfl, b3⟩
              have hb3 := HB2.out.trans (b3.mono hz2)
              go_wp2
              go_ret
              exact ⟨by rw [hX.out]; rfl, hb3⟩
          · have hp' : decide (i ≤ pid) = true := by simp; omega
            have hX := Lib.hid (hS2.out h0 (by omega))
            clear hS0 hS1 hS2 hS3 HT hp
            refine wp_region_quiet_below (by kernel_rfl) (by kernel_rfl) ?_
            repeat (first | go_big_quiet_step (exact HC _ _) | quiet_step (exact HC _ _))
            refine wpQuiet_nil ?_
            intro _ hw'
            obtain ⟨⟨dq, osq⟩, hw''⟩ := hw'
            subst hw''
            have b2 := below_regrown W dq osq
            generalize Go.Sort.grow (redrawn W dq) osq = w2 at *
            have hb2 : Below w.heap.size w w2 := HB1.out.trans (b2.mono hzW)
            clear R1 c0 HPC
            go_wp2
            go_ret
            exact ⟨by rw [hX.out]; rfl, hb2⟩
        · have hki : decide ((0 : Int) < (k : Int)) = false := by simp; omega
          have hkn : decide (0 < k) = false := by simp; omega
          have h02 := Lib.hid h0
          clear HIA HK HP h0
          refine wp_region_quiet_below (by kernel_rfl) (by kernel_rfl) ?_
          repeat (first | go_big_quiet_step (exact HC _ _) | quiet_step (exact HC _ _))
          refine wpQuiet_nil ?_
          intro _ hw'
          obtain ⟨⟨dq, osq⟩, hw''⟩ := hw'
          subst hw''
          have b2 := below_regrown W dq osq
          generalize Go.Sort.grow (redrawn W dq) osq = w2 at *
          have hb2 : Below w.heap.size w w2 := HB1.out.trans (b2.mono hzW)
          have hT2 := HT.out.below' hBW b2
          clear q0' q1' q2' q3' HC
          have q1 := (cells4 ((b2.block g hz1).trans R1)).2.1
          have hC := Lib.hid (l_ContainsNm (some ad) k c (L.take k) (.pointer (some ⟨g, 0, none⟩)) (fun d => sameNm d.nm s) B _ hT2 (Nat.le_trans hBW b2.size) (fun W' d b => i_same d g s W' (Nat.lt_of_lt_of_le hz1 (Nat.le_trans b2.size b.size)) ((b.cell (p := ⟨g, 1, none⟩) (Nat.lt_of_lt_of_le hz1 b2.size)).trans q1)))
          have hz2 := hb2.size
          have HB2 := Lib.hid hb2
          rw [show (L.take k).any (fun d => sameNm d.nm s) = hasNm (L.take k) s from rfl] at hC
          clear hT2 b2 hb2 HT R1
          cases hh : hasNm (L.take k) s
          · rw [hh] at hC
            have hX := Lib.hid (hS0.out rfl (fun h => absurd h h02.out) hh)
            clear hh hS0 hS1 hS2 hS3
            go_wp2_with fail
            refine hC.out.mono ?_
            rintro e w3 ⟨rfl, b3⟩
            have hb3 := HB2.out.trans (b3.mono hz2)
            go_wp2
            go_roundw
            case rel => exact ⟨k + 1, by omega, by go_num, hX, hb3⟩
            case measure => simp [intOf]; omega
          · rw [hh] at hC
            have hX := Lib.hid (hS3.out hh)
            clear hh hS0 hS1 hS2 hS3
            go_wp2_with fail
            refine hC.out.mono ?_
            rintro e w3 ⟨rfl, b3⟩
            have hb3 := HB2.out.trans (b3.mono hz2)
            go_wp2
            go_ret
            exact ⟨by rw [hX.out]; rfl, hb3⟩
    · obtain rfl : k = n := by omega
      have hT := Lib.hid (hOf.out H.out)
      clear h hNo hOf
      by_cases h1 : 1 ≤ k
      · by_cases h2 : k ≤ 32
        · have d1 : decide ((1 : Int) ≤ k) = true := by simp; omega
          have d2 : decide ((k : Int) ≤ 32) = true := by simp; omega
          have hE := Lib.hid (show decide (1 ≤ k ∧ k ≤ 32) = true by simp; omega)
          go_wp2
          go_ret
          exact ⟨by rw [hT.out, hE.out]; rfl, hb⟩
        · have d1 : decide ((1 : Int) ≤ k) = true := by simp; omega
          have d2 : decide ((k : Int) ≤ 32) = false := by simp; omega
          have hE := Lib.hid (show decide (1 ≤ k ∧ k ≤ 32) = false by simp; omega)
          go_wp2
          go_ret
          exact ⟨by rw [hT.out, hE.out]; rfl, hb⟩
      · obtain rfl : k = 0 := by omega
        go_wp2
        go_ret
        exact ⟨by rw [hT.out]; rfl, hb⟩
end Go.Proofs.YtgenfffgenddmaaDoor

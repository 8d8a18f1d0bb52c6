/- IsNodeTable, the specification's text. -/
import Derived.Test.YtgenfffgenddmaaDoorNod5
namespace Go.Proofs.YtgenfffgenddmaaDoor
open Go.RowKit
set_option linter.unusedSimpArgs false
set_option linter.unusedVariables false
theorem hasNm_next {L : List Nd} {j : Nat} {e : Nd} {s : ByteArray} (h : hasNm (L.take j) s = false) (he : L[j]? = some e) (hn : sameNm e.nm s = false) : hasNm (L.take (j + 1)) s = false := by
  obtain ⟨hj, rfl⟩ := List.getElem?_eq_some_iff.1 he
  unfold hasNm at *
  rw [List.take_add_one, List.any_append, h, he]
  simp [hn]
theorem hasNm_bad {L : List Nd} {j k : Nat} {e : Nd} {s : ByteArray} (hjk : j < k) (he : L[j]? = some e) (hn : sameNm e.nm s = true) : hasNm (L.take k) s = true := by
  obtain ⟨hj, rfl⟩ := List.getElem?_eq_some_iff.1 he
  exact List.any_eq_true.2 ⟨_, List.mem_iff_getElem.2 ⟨j, by rw [List.length_take]; omega, by rw [List.getElem_take]⟩, hn⟩
theorem hasNm_zero (L : List Nd) (s : ByteArray) : hasNm (L.take 0) s = false := rfl
theorem ntOk_len {L : List Nd} {n : Nat} (hn : L.length = n) (h : decide ((1 : Int) ≤ n ∧ (n : Int) ≤ 32) = false) : ntOk L = false := by
  subst hn
  have : decide (1 ≤ L.length ∧ L.length ≤ 32) = false := by
    simp only [decide_eq_false_iff_not] at *; omega
  simp [ntOk, this]
theorem ntOk_all {L : List Nd} {n : Nat} (hn : L.length = n) (h : decide ((1 : Int) ≤ n ∧ (n : Int) ≤ 32) = true) (hk : ntK L n = true) : ntOk L = true := by
  subst hn
  have : decide (1 ≤ L.length ∧ L.length ≤ 32) = true := by
    simp only [decide_eq_true_eq] at *; omega
  simp [ntOk, this, hk]
set_option maxHeartbeats 4000000 in
theorem s_IsNodeTable (A : Option Addr) (n c : Nat) (L : List Nd) (B : Nat) (w : World) (h : NodesAt w B A n c L) (hB : B ≤ w.heap.size) :
    Calls Tryd.prog 25 #[.slice A n c] w fun e w' => e = .returned (.bool (ntOk L)) ∧ Below w.heap.size w w' := by
  have hn := h.2.2.1
  have hnc := h.2.1
  have hl := h.1
  have hNo := Lib.hid (fun hh => ntOk_no (L := L) hl hh)
  have hT := Lib.hid (fun b hb W => s_l01In_b n 1 32 b W hb)
  cases hr : decide ((1 : Int) ≤ n ∧ (n : Int) ≤ 32)
  · have hX := Lib.hid (ntOk_len hl hr)
    have hC := Lib.hid (hT.out false hr)
    clear hT hNo h hr hl
    go_enter Tryd.func25, Tryd.ntmps25
    go_wp2_with (go_at_call 53; refine (hC.out _).mono ?_; rintro e w' ⟨rfl, rfl⟩)
    go_ret
    exact ⟨by rw [hX.out]; rfl, Below.refl _ _⟩
  have hOf := Lib.hid (fun hh => ntOk_all hl hr hh)
  have hC := Lib.hid (hT.out true hr)
  clear hT hr hl
  go_enter Tryd.func25, Tryd.ntmps25
  go_wp2_with (go_at_call 53; refine (hC.out _).mono ?_; rintro e w' ⟨rfl, rfl⟩)
  go_loopw [3] (fun i wr => ∃ k : Nat, k ≤ n ∧ i = .int .i64 k ∧ Hid (ntK L k = true) ∧ Below w.heap.size w wr) (fun i _ => n - (intOf i).toNat)
  case atStart => exact ⟨0, Nat.zero_le _, rfl, Lib.hid rfl, Below.refl _ _⟩
  case round =>
    clear hC
    obtain ⟨k, hk, rfl, H, hb⟩ := hrel
    have zb := hb.size
    by_cases hlt : k < n
    · obtain ⟨ad, d, rfl, hab, hd, cs, hs⟩ := h.at_ k hlt
      have HY := Lib.hid (fun ho => ntK_next H.out hd ho)
      have HN := Lib.hid (fun ho => ntK_bad hd ho hlt)
      have HI := Lib.hid (fun W => s_IsNodeInfo d W (by unfold maxLen; omega))
      have HP := Lib.hid (fun (j : Nat) (h0 : j < k) => h.at_ j (by omega))
      have HIA := Lib.hid (fun (e : Nd) (he : L[k - 1]? = some e) => idAt_eq he)
      have hS1 := Lib.hid (fun hh => hNo.out (HN.out (st_bad1 hh)))
      have hS2 := Lib.hid (fun h0 hh => hNo.out (HN.out (st_bad2 h0 hh)))
      have hS3 := Lib.hid (fun hh => hNo.out (HN.out (st_bad3 hh)))
      have hS0 := Lib.hid (fun h1 h2 h3 => HY.out (st_ok h1 h2 h3))
      have HK := Lib.hid (fun (W : World) (b : Below w.heap.size w W) (j : Nat) (e : Nd) (he : ndCells w ad j e) => he.keep (w' := W) fun p hp => b.cell (by rw [hp]; omega))
      have CK := HK.out wr hb k d cs
      have CS := Lib.hid cs
      clear cs hd h hNo HY HN
      have hkc : (k : Int) ≤ (c : Int) := by omega
      obtain ⟨i, s, r, p⟩ := d
      simp only [Nd.cells] at HI hS1 hS2 hS3 hS0 hs
      obtain ⟨q0, q1, q2, q3⟩ := CK
      have HB1 := Lib.hid hb
      have k0 : (0 : Int) ≤ (k : Int) := by omega
      have k1 : (k : Int) < (n : Int) := by omega
      go_upto_region 6 with fail
      have HC : ∀ dd os, Calls Tryd.prog 21 #[.agg #[.int .i64 i, .string s, .int .i64 r, .bool p]] (Go.Sort.grow (redrawn wr dd) os) fun e w'' => e = .returned (.bool (ndOk ⟨i, s, r, p⟩)) ∧ ∃ p : Regrown, w'' = Go.Sort.grow (redrawn wr p.d) p.os := fun dd os => Calls.regrown_of ((HI.out _).mono fun e w' h => h)
      have q0' := cell_regrown q0
      have q1' := cell_regrown q1
      have q2' := cell_regrown q2
      have q3' := cell_regrown q3
      clear q0 q1 q2 q3 HI hb
      generalize ndOk ⟨i, s, r, p⟩ = ok at *
      cases ok
      · have hX := Lib.hid (hS1.out rfl)
        clear hS0 hS1 hS2 hS3 HP HIA HK
        refine wp_region_quiet_below (by kernel_rfl) (by kernel_rfl) ?_
        repeat (first | go_big_quiet_step (exact HC _ _) | quiet_step (exact HC _ _))
        refine wpQuiet_nil ?_
        intro _ hw'
        obtain ⟨⟨dq, osq⟩, hw''⟩ := hw'
        subst hw''
        have b2 := below_regrown wr dq osq
        generalize Go.Sort.grow (redrawn wr dq) osq = w2 at *
        have hb2 : Below w.heap.size w w2 := HB1.out.trans (b2.mono zb)
        go_wp2
        go_ret
        exact ⟨by rw [hX.out]; rfl, hb2⟩
      · go_cut [38] from 15 to 38 (fun v38 wx => Hid (Below w.heap.size w wx) ∧ ((v38 = .bool true ∧ Hid (ntOk L = false)) ∨ (v38 = .bool false ∧ Hid (0 < k → idAt L (k - 1) < i))))
        case first =>
          by_cases h0 : 0 < k
          · obtain ⟨ad', e0, ead, -, he0, pcs, -⟩ := HP.out (k - 1) (by omega)
            injection ead with ead
            subst ead
            have hpid := HIA.out e0 he0
            have HPC := Lib.hid (fun (W' : World) (b : Below w.heap.size w W') => (HK.out W' b (k - 1) e0 pcs).1)
            rw [← hpid] at HPC
            have c0 := cell_regrown (HPC.out wr HB1.out)
            clear hpid he0 pcs HIA HK HP HPC
            generalize idAt L (k - 1) = pid at *
            have hki : decide ((0 : Int) < (k : Int)) = true := by simp; omega
            have hkn : decide (0 < k) = true := by simp; omega
            have r0 : (0 : Int) ≤ (k : Int) - 1 := by omega
            have r1 : (k : Int) - 1 < (n : Int) := by omega
            have hwk : IntKind.i64.wrap ((k : Int) - 1) = (k : Int) - 1 := IntWalk.i64_in _ (by omega)
            by_cases hp : pid < i
            · have hp' : decide (i ≤ pid) = false := by simp; omega
              have hX := Lib.hid (fun (_ : 0 < k) => hp)
              clear hp hS0 hS1 hS2 hS3
              refine wp_region_quiet_below (by kernel_rfl) (by kernel_rfl) ?_
              repeat (first | go_big_quiet_step (exact HC _ _) | quiet_step (exact HC _ _))
              refine wpQuiet_nil ?_
              intro _ hw'
              obtain ⟨⟨dq, osq⟩, hw''⟩ := hw'
              subst hw''
              have b2 := below_regrown wr dq osq
              generalize Go.Sort.grow (redrawn wr dq) osq = w2 at *
              have hb2 : Below w.heap.size w w2 := HB1.out.trans (b2.mono zb)
              try go_wp2
              go_meet
              case rel => exact ⟨Lib.hid hb2, .inr ⟨rfl, hX⟩⟩
            · have hp' : decide (i ≤ pid) = true := by simp; omega
              have hX := Lib.hid (hS2.out h0 (by omega))
              clear hS0 hS1 hS2 hS3 hp
              refine wp_region_quiet_below (by kernel_rfl) (by kernel_rfl) ?_
              repeat (first | go_big_quiet_step (exact HC _ _) | quiet_step (exact HC _ _))
              refine wpQuiet_nil ?_
              intro _ hw'
              obtain ⟨⟨dq, osq⟩, hw''⟩ := hw'
              subst hw''
              have b2 := below_regrown wr dq osq
              generalize Go.Sort.grow (redrawn wr dq) osq = w2 at *
              have hb2 : Below w.heap.size w w2 := HB1.out.trans (b2.mono zb)
              try go_wp2
              go_meet
              case rel => exact ⟨Lib.hid hb2, .inl ⟨rfl, hX⟩⟩
          · have hki : decide ((0 : Int) < (k : Int)) = false := by simp; omega
            have hkn : decide (0 < k) = false := by simp; omega
            have hX := Lib.hid (fun (h : 0 < k) => (absurd h h0 : idAt L (k - 1) < i))
            clear HIA HK HP h0 hS0 hS1 hS2 hS3
            refine wp_region_quiet_below (by kernel_rfl) (by kernel_rfl) ?_
            repeat (first | go_big_quiet_step (exact HC _ _) | quiet_step (exact HC _ _))
            refine wpQuiet_nil ?_
            intro _ hw'
            obtain ⟨⟨dq, osq⟩, hw''⟩ := hw'
            subst hw''
            have b2 := below_regrown wr dq osq
            generalize Go.Sort.grow (redrawn wr dq) osq = w2 at *
            have hb2 : Below w.heap.size w w2 := HB1.out.trans (b2.mono zb)
            try go_wp2
            go_meet
            case rel => exact ⟨Lib.hid hb2, .inr ⟨rfl, hX⟩⟩
        clear q0' q1' q2' q3' HC HB1 hS1 hS2 HIA
        obtain ⟨HB2, ⟨rfl, hX⟩ | ⟨rfl, hX⟩⟩ := hcut
        · go_wp2
          go_ret
          exact ⟨by rw [hX.out]; rfl, HB2.out⟩
        have hS0' := Lib.hid (fun hh => hS0.out rfl hX.out hh)
        clear hS0 hX
        have hb2 := HB2.out
        go_wp2
        go_loopw [4] (fun ji wj => ∃ j : Nat, j ≤ k ∧ ji = .int .i64 j ∧ Hid (hasNm (L.take j) s = false) ∧ Below w.heap.size w wj) (fun ji _ => k - (intOf ji).toNat)
        case atStart => exact ⟨0, Nat.zero_le _, rfl, Lib.hid (hasNm_zero _ _), hb2⟩
        case round =>
          clear hb2 HB2
          obtain ⟨j, hj, rfl, HJ, hbj⟩ := hrel
          have zj := hbj.size
          by_cases hjk : j < k
          · obtain ⟨ad', e, ead, -, he, ecs, -⟩ := HP.out j hjk
            injection ead with ead
            subst ead
            have E1 := cell_regrown (HK.out _ hbj j e ecs).2.1
            have D1 := cell_regrown (HK.out _ hbj k _ CS.out).2.1
            have HJN := Lib.hid (fun hh => hasNm_next HJ.out he hh)
            have HJB := Lib.hid (fun hh => hS3.out (hasNm_bad hjk he hh))
            have hsm := Lib.hid (show sameNm e.nm s = (e.nm.toList == s.toList) from rfl)
            have HBJ := Lib.hid hbj
            obtain ⟨ei, es, er, ep⟩ := e
            have j0 : (0 : Int) ≤ (j : Int) := by omega
            have j1 : (j : Int) < (n : Int) := by omega
            simp only at E1 D1 HJN HJB hsm
            clear he ecs HP HK CS hS3 hS0' hbj HJ
            go_upto_region 11 with fail
            cases hq : sameNm es s
            · have HX := Lib.hid (HJN.out hq)
              have hq' : (es.toList == s.toList) = false := hsm.out.symm.trans hq
              clear hq HJN HJB
              refine wp_region_quiet_below (by kernel_rfl) (by kernel_rfl) ?_
              repeat (first | go_big_quiet_step (fail) | quiet_step (fail))
              refine wpQuiet_nil ?_
              intro _ hw'
              obtain ⟨⟨dq, osq⟩, hw''⟩ := hw'
              subst hw''
              have b3 := HBJ.out.trans ((below_regrown _ dq osq).mono zj)
              generalize Go.Sort.grow (redrawn _ dq) osq = w3 at *
              go_wp2
              go_roundw
              case rel => exact ⟨j + 1, by omega, by go_num, HX, b3⟩
              case measure => simp [intOf]; omega
            · have HX := Lib.hid (HJB.out hq)
              have hq' : (es.toList == s.toList) = true := hsm.out.symm.trans hq
              clear hq HJN HJB
              refine wp_region_quiet_below (by kernel_rfl) (by kernel_rfl) ?_
              repeat (first | go_big_quiet_step (fail) | quiet_step (fail))
              refine wpQuiet_nil ?_
              intro _ hw'
              obtain ⟨⟨dq, osq⟩, hw''⟩ := hw'
              subst hw''
              have b3 := HBJ.out.trans ((below_regrown _ dq osq).mono zj)
              generalize Go.Sort.grow (redrawn _ dq) osq = w3 at *
              go_wp2
              go_ret
              exact ⟨by rw [HX.out]; rfl, b3⟩
          · obtain rfl : j = k := by omega
            have HX := Lib.hid (hS0'.out HJ.out)
            clear HJ HP HK CS hS3 hS0'
            go_wp2
            go_roundw
            case rel => exact ⟨j + 1, by omega, by go_num, HX, hbj⟩
            case measure => simp [intOf]; omega
    · obtain rfl : k = n := by omega
      have hT := Lib.hid (hOf.out H.out)
      clear h hNo hOf
      go_wp2
      go_ret
      exact ⟨by rw [hT.out]; rfl, hb⟩
end Go.Proofs.YtgenfffgenddmaaDoor

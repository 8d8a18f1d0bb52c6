/- The reference's reader of a node table. -/
import Derived.Test.YtgenfffgenddmaaDoorBo
import Derived.Test.YtgenfffgenddmaaDoorRdP
import Derived.Test.YtgenfffgenddmaaDoorNod13
namespace Go.Proofs.YtgenfffgenddmaaDoor
open Go.RowKit
set_option linter.unusedSimpArgs false
set_option linter.unusedVariables false
def RdPost (w : World) (xs : List Int) (e : Ending) (w' : World) : Prop := ∃ v, e = .returned (.tuple #[v, .int .i64 (rdP xs), .bool (rdB xs)]) ∧ NOwn w' w.heap.size v (rdL xs) ∧ Below w.heap.size w w'
theorem nown_nil (w : World) (base : Nat) : NOwn w base (.slice none 0 0) [] := ⟨rfl, .inl ⟨rfl, rfl⟩⟩
theorem rdPost_no {w w' : World} {xs : List Int} (h : rdRes xs = none) (hb : Below w.heap.size w w') : RdPost w xs (.returned (.tuple #[.slice none 0 0, .int .i64 0, .bool false])) w' := by
  obtain ⟨e1, e2, e3⟩ := rd_no h
  exact ⟨_, by rw [e2, e3]; rfl, by rw [e1]; exact nown_nil _ _, hb⟩
theorem rdPost_yes {w w' : World} {xs : List Int} {L : List Nd} {p : Nat} {v : Value} (h : rdRes xs = some (L, p)) (ho : NOwn w' w.heap.size v L) (hb : Below w.heap.size w w') : RdPost w xs (.returned (.tuple #[v, .int .i64 p, .bool true])) w' := by
  obtain ⟨e1, e2, e3⟩ := rd_yes h
  exact ⟨_, by rw [e2, e3], by rw [e1]; exact ho, hb⟩
theorem BOwn.below_ {w w' : World} {base : Nat} {v : Value} {bs : List Int} (h : BOwn w base v bs) (hb : Below w.heap.size w w') : BOwn w' base v bs :=
  World.ownsRow.kept h (grown_of_below hb none) (by cases v.ownBlock <;> simp)
set_option maxHeartbeats 4000000 in
set_option maxRecDepth 100000 in
theorem s_l10Read (A : Option Addr) (n c : Nat) (xs : List Int) (B : Nat) (w : World) (h : IntsAt w B A n c xs) (hB : B ≤ w.heap.size) (hbt : bytesOk xs = true) :
    Calls Tryd.prog 47 #[.slice A n c] w (RdPost w xs) := by
  have hn := h.small
  have hlen := h.len
  have hnc := h.le
  have hnm := bytesOk_len hbt
  have HBt := Lib.hid (fun k (hk : k < n) => bytesOk_at hbt k (by omega))
  by_cases h0 : n = 0
  · subst h0
    have HX := Lib.hid (rdRes_out (rdOut_nil hlen))
    clear h hlen hbt
    go_enter Tryd.func47, Tryd.ntmps47
    go_wp2
    go_ret3
    exact rdPost_no HX.out (Below.refl _ _)
  obtain ⟨ad, rfl, hab, -⟩ := h.at_ 0 (by omega)
  have HCl := Lib.hid (fun (W : World) (hW : Below w.heap.size w W) (k : Nat) (hk : k < n) => show W.cell? (ad.add k) = some (.int .i64 (xs.getD k 0)) by
    obtain ⟨ad', e, hb', hc⟩ := h.at_ k hk
    injection e with e
    subst e
    rw [hW.cell (by rw [block_add]; omega)]
    exact hc)
  have HI := Lib.hid h
  obtain ⟨k0, hk0⟩ := nat_of' _ (HBt.out 0 (by omega)).1
  have hk1 : k0 ≤ 255 := by have := (HBt.out 0 (by omega)).2; omega
  have HO := Lib.hid (show rdMore xs [] k0 1 = rdOut xs by rw [rdOut_of (by omega), hk0]; rfl)
  have hx0 : w.cell? ad = some (.int .i64 k0) := (HCl.out w (Below.refl _ _) 0 (by omega)).trans (by rw [hk0])
  have hq : ((n : Int) == 0) = false := by simp; omega
  have hO : NOwn (w.alloc (.cells #[] 36)) w.heap.size (.slice (some ⟨w.heap.size, 0, none⟩) 0 0) [] := World.ownsRow_lit (e := 36) (size := 4) w #[] 0 (Nat.le_refl _) (by unfold maxLen; omega) (by simp)
  have hn1 : (0 : Int) < (n : Int) := by omega
  have hx1 : (w.alloc (.cells #[] 36)).cell? ad = some (.int .i64 k0) := by rw [(((Below.refl w.heap.size w).alloc (Nat.le_refl _) _)).cell (by omega)]; exact hx0
  have HN := Lib.hid (show n ≤ 1024 by omega)
  have HL := Lib.hid hlen
  clear h hbt hk0 hn hlen hnm
  go_enter Tryd.func47, Tryd.ntmps47
  go_wp2
  clear hx0 hx1
  go_loopw [5, 6, 7] (fun v i6 i7 wr => ∃ (L : List Nd) (p k : Nat), i6 = .int .i64 p ∧ i7 = .int .i64 k ∧ p ≤ n ∧ L.length + k ≤ 255 ∧ Hid (NOwn wr w.heap.size v L) ∧ Below w.heap.size w wr ∧ Hid (rdMore xs L k p = rdOut xs) ∧ Hid (nm255 L)) (fun _ _ i7 _ => (intOf i7).toNat)
  case atStart => exact ⟨[], 1, k0, rfl, rfl, by omega, by simp; omega, Lib.hid hO, (Below.refl _ _).alloc (Nat.le_refl _) _, HO, Lib.hid (by intro k d hd; simp at hd)⟩
  case round =>
    clear hO HO hq
    obtain ⟨L, p, k, rfl, rfl, hp, hLk, hO, hb, hR, hNm⟩ := hrel
    have zb := hb.size
    have hn := HN.out
    have hlen := HL.out
    by_cases hk : 0 < k
    · have dk : decide ((0 : Int) < (k : Int)) = true := by simp; omega
      obtain ⟨q5, hq5⟩ : ∃ q, q = p + 5 := ⟨_, rfl⟩
      have hw5 : IntKind.i64.wrap ((p : Int) + 5) = (q5 : Int) := by rw [IntWalk.i64_in _ (by omega)]; omega
      obtain ⟨k', Hk'⟩ : ∃ k', Hid (k = k' + 1) := ⟨k - 1, Lib.hid (by omega)⟩
      have hR' := Lib.hid (hR.out)
      rw [Hk'.out] at hR'
      by_cases hf : q5 ≤ n
      · have d5 : decide ((n : Int) < (q5 : Int)) = false := by simp; omega
        have d5' : decide (n < q5) = false := by simp; omega
        obtain ⟨q4, hq4⟩ : ∃ q, q = p + 4 := ⟨_, rfl⟩
        have hw4 : IntKind.i64.wrap ((p : Int) + 4) = (q4 : Int) := by rw [IntWalk.i64_in _ (by omega)]; omega
        obtain ⟨len, hlen4⟩ := nat_of' _ (HBt.out q4 (by omega)).1
        have hl255 : len ≤ 255 := by have := (HBt.out q4 (by omega)).2; omega
        have cl : wr.cell? (ad.add q4) = some (.int .i64 len) := (HCl.out wr hb q4 (by omega)).trans (by rw [hlen4])
        obtain ⟨qe, hqe⟩ : ∃ q, q = q5 + len := ⟨_, rfl⟩
        have hwe : IntKind.i64.wrap ((q5 : Int) + (len : Int)) = (qe : Int) := by rw [IntWalk.i64_in _ (by omega)]; omega
        have b40 : (0 : Int) ≤ (q4 : Int) := by omega
        have b41 : (q4 : Int) < (n : Int) := by omega
        have HL4 := Lib.hid hlen4
        clear hlen4
        have hrl : rdLen xs p = len := by unfold rdLen; rw [← hq4, HL4.out]; rfl
        have hre : rdEnd xs p = qe := by unfold rdEnd; omega
        by_cases hf2 : qe ≤ n
        · have de : decide ((n : Int) < (qe : Int)) = false := by simp; omega
          have de' : decide (n < qe) = false := by simp; omega
          have hfit : rdFit xs p = true := by unfold rdFit; rw [hre]; simp; omega
          have HR2 := Lib.hid ((rdMore_step (acc := L) (k := k') hfit).symm.trans hR'.out)
          have hbytes : ((xs.drop q5).take len).length = len := by rw [List.length_take, List.length_drop]; omega
          have hbb : ∀ k, k < ((xs.drop q5).take len).length → 0 ≤ ((xs.drop q5).take len).getD k 0 ∧ ((xs.drop q5).take len).getD k 0 ≤ 255 := by
            intro k hk
            have h2 := HBt.out (q5 + k) (by omega)
            have e : ((xs.drop q5).take len).getD k 0 = xs.getD (q5 + k) 0 := by
              simp only [List.getD_eq_getElem?_getD, List.getElem?_take, List.getElem?_drop]
              rw [if_pos (by omega)]
            rw [e]; exact h2
          have HBB := Lib.hid hbb
          have HQ := Lib.hid (And.intro hq5 (And.intro hq4 hqe))
          clear hn hlen hqe hq4 hq5 hbb
          rename World => wo
          go_wp2
          go_loopw [8, 9] (fun v8 i9 wr => ∃ (j m : Nat), j ≤ len ∧ Hid (m = q5 + j) ∧ i9 = .int .i64 m ∧ Hid (BOwn wr wo.heap.size v8 ((xs.drop q5).take j)) ∧ v8.ownBlock ≠ none ∧ Below wo.heap.size wo wr) (fun _ i9 _ => qe - (intOf i9).toNat)
          case atStart => exact ⟨0, q5, Nat.zero_le _, Lib.hid rfl, rfl, Lib.hid (by simpa using blit_own wo wo.heap.size (Nat.le_refl _)), by simp [Value.ownBlock], (Below.refl _ _).alloc (Nat.le_refl _) _⟩
          case round =>
            obtain ⟨j, m, hj, hm, rfl, hBO, hvo, bj⟩ := hrel
            obtain ⟨hq5, hq4, hqe⟩ := HQ.out
            have hn := HN.out
            have hlen := HL.out
            have hm' := hm.out
            have zj := bj.size
            have hbj := hb.trans (bj.mono zb)
            have clj : wr.cell? (ad.add q4) = some (.int .i64 len) := (HCl.out wr hbj q4 (by omega)).trans (by rw [HL4.out])
            by_cases hjl : j < len
            · have dm : decide ((m : Int) < (qe : Int)) = true := by simp; omega
              obtain ⟨x, hx⟩ := nat_of' _ (HBt.out m (by omega)).1
              have hx255 : x ≤ 255 := by have := (HBt.out m (by omega)).2; omega
              have cm : wr.cell? (ad.add m) = some (.int .i64 x) := (HCl.out wr hbj m (by omega)).trans (by rw [hx])
              have hwx : IntKind.u8.wrap (x : Int) = (x : Int) := by simp [IntKind.wrap, IntKind.signed, IntKind.bits]; omega
              have hwm : IntKind.i64.wrap ((m : Int) + 1) = (m : Int) + 1 := IntWalk.i64_in _ (by omega)
              have m0 : (0 : Int) ≤ (m : Int) := by omega
              have m1 : (m : Int) < (n : Int) := by omega
              have hbl : ((xs.drop q5).take j).length ≤ 255 := by rw [List.length_take]; omega
              have HTk := Lib.hid (show (xs.drop q5).take (j + 1) = (xs.drop q5).take j ++ [(x : Int)] by
                have hxm : xs[m]? = some (x : Int) := by
                  have hml : m < xs.length := by omega
                  rw [List.getD_eq_getElem?_getD, List.getElem?_eq_getElem hml] at hx
                  rw [List.getElem?_eq_getElem hml]
                  exact congrArg some hx
                rw [List.take_add_one, List.getElem?_drop, ← hm', hxm]
                rfl)
              have HMQ := Lib.hid (show m < qe by omega)
              generalize (xs.drop q5).take j = Z at *
              clear hn hlen hqe hq4 hq5 hm' hx
              go_wp2_with (at_builtin; refine wpList_appB _ rfl _ _ rfl wo.heap.size _ Z rfl (hBO.out.below_ ((Below.refl _ _).alloc (Nat.le_refl _) _)) _ _ (x : Int) rfl (heap_alloc_new _ _) (by omega) (by rw [World.size_alloc]; omega) ?_; intro v' w' O' g' ob')
              go_roundw
              case rel => exact ⟨j + 1, m + 1, by omega, Lib.hid (by have := hm.out; omega), by go_num, Lib.hid (by rw [HTk.out]; exact O'), (by rcases ob' with e | e <;> rw [e]; exact hvo; simp), (bj.alloc zj _).grown g' (by rw [World.size_alloc]; omega) (fun k hk => (hBO.out.lt k hk).1)⟩
              case measure => have := HMQ.out; simp [intOf]; omega
            · obtain rfl : j = len := by omega
              have hme : m = qe := by omega
              subst hme
              have dm : decide ((m : Int) < (m : Int)) = false := by simp
              obtain ⟨g, cg, ev, hg0, hg1, hconv⟩ := hBO.out.conv hvo HBB.out
              rw [hbytes] at ev hconv
              subst ev
              have hS : (⟨(((xs.drop q5).take j).map fun x => UInt8.ofNat x.toNat).toArray⟩ : ByteArray) = rdNm xs q5 j := rfl
              rw [hS] at hconv
              clear hS
              have hsz : (rdNm xs q5 j).size = j := rdNm_size (by omega)
              obtain ⟨q1, hq1⟩ : ∃ q, q = p + 1 := ⟨_, rfl⟩
              obtain ⟨q2, hq2⟩ : ∃ q, q = p + 2 := ⟨_, rfl⟩
              obtain ⟨q3, hq3⟩ : ∃ q, q = p + 3 := ⟨_, rfl⟩
              have hw1 : IntKind.i64.wrap ((p : Int) + 1) = (q1 : Int) := by rw [IntWalk.i64_in _ (by omega)]; omega
              have hw2 : IntKind.i64.wrap ((p : Int) + 2) = (q2 : Int) := by rw [IntWalk.i64_in _ (by omega)]; omega
              have hw3 : IntKind.i64.wrap ((p : Int) + 3) = (q3 : Int) := by rw [IntWalk.i64_in _ (by omega)]; omega
              obtain ⟨x0, e0⟩ := nat_of' _ (HBt.out p (by omega)).1
              obtain ⟨x1, e1⟩ := nat_of' _ (HBt.out q1 (by omega)).1
              obtain ⟨x2, e2⟩ := nat_of' _ (HBt.out q2 (by omega)).1
              obtain ⟨x3, e3⟩ := nat_of' _ (HBt.out q3 (by omega)).1
              have l1 : x1 ≤ 255 := by have := (HBt.out q1 (by omega)).2; omega
              have l2 : x2 ≤ 255 := by have := (HBt.out q2 (by omega)).2; omega
              have hwm : IntKind.i64.wrap (256 * (x1 : Int)) = 256 * (x1 : Int) := IntWalk.i64_in _ (by omega)
              have hwa : IntKind.i64.wrap (256 * (x1 : Int) + (x2 : Int)) = 256 * (x1 : Int) + (x2 : Int) := IntWalk.i64_in _ (by omega)
              have p0 : (0 : Int) ≤ (p : Int) := by omega
              have p1 : (p : Int) < (n : Int) := by omega
              have p2 : (0 : Int) ≤ (q1 : Int) := by omega
              have p3 : (q1 : Int) < (n : Int) := by omega
              have p4 : (0 : Int) ≤ (q2 : Int) := by omega
              have p5 : (q2 : Int) < (n : Int) := by omega
              have p6 : (0 : Int) ≤ (q3 : Int) := by omega
              have p7 : (q3 : Int) < (n : Int) := by omega
              have HD := Lib.hid (show rdNd xs p = ⟨(x0 : Int), rdNm xs q5 j, 256 * (x1 : Int) + (x2 : Int), (x3 : Int) == 1⟩ by
                unfold rdNd
                rw [hrl, ← hq5, ← hq1, ← hq2, ← hq3, e0, e1, e2, e3])
              have hOj := hO.out.below_ bj
              have hlo := hO.out.lt
              have HK := Lib.hid (fun (W : World) (hW : wr.grownBy W u5.ownBlock) => show wr.grownBy W u5.ownBlock ∧ W.cell? (ad.add p) = some (.int .i64 (x0 : Int)) ∧ W.cell? (ad.add q1) = some (.int .i64 (x1 : Int)) ∧ W.cell? (ad.add q2) = some (.int .i64 (x2 : Int)) ∧ W.cell? (ad.add q3) = some (.int .i64 (x3 : Int)) ∧
                  (convert 53 9 (.slice (some ⟨g, 0, none⟩) j cg)).run Tryd.prog W = .ok (.string (rdNm xs q5 j)) W from by
                have hc : ∀ k, k < n → W.cell? (ad.add k) = some (.int .i64 (xs.getD k 0)) := fun k hk => by
                  rw [hW.cell_far _ (by rw [block_add]; omega) (fun e => by rw [block_add] at e; have := (hlo _ e.symm).1; omega)]
                  exact HCl.out wr hbj k hk
                exact ⟨hW, (hc p (by omega)).trans (by rw [e0]), (hc q1 (by omega)).trans (by rw [e1]), (hc q2 (by omega)).trans (by rw [e2]), (hc q3 (by omega)).trans (by rw [e3]), hconv W (hW.block g hg1 (fun e => by have := (hlo _ e.symm).2; omega))⟩)
              have HF := Lib.hid (And.intro hm' (And.intro hf2 hLk))
              have HSz := Lib.hid hsz
              have hRe := Lib.hid hre
              generalize rdNm xs q5 j = nm at *
              clear hn hlen hqe hq4 hq5 hm' e0 e1 e2 e3 hq1 hq2 hq3 hconv hbytes hBO hrl hre
              go_upto_region 15 with fail
              have KS := HK.out wr.drew (grown_drew (World.grownBy.refl _ _))
              go_region_held3 (fun W => wr.grownBy W u5.ownBlock ∧ W.cell? (ad.add p) = some (.int .i64 (x0 : Int)) ∧ W.cell? (ad.add q1) = some (.int .i64 (x1 : Int)) ∧ W.cell? (ad.add q2) = some (.int .i64 (x2 : Int)) ∧ W.cell? (ad.add q3) = some (.int .i64 (x3 : Int)) ∧ (convert 53 9 (.slice (some ⟨g, 0, none⟩) j cg)).run Tryd.prog W = .ok (.string nm) W) (first | assumption | exact HK.out _ (grown_alloc (grown_drew (World.grownBy.refl _ _)) _))
                (first | (refine step_appN rfl _ _ rfl w.heap.size u5 L rfl (NOwn.below_ (w := wr) hOj (((Below.refl _ _).drew).alloc (Nat.le_refl _) _)) _ _ ⟨(x0 : Int), nm, 256 * (x1 : Int) + (x2 : Int), (x3 : Int) == 1⟩ rfl (heap_alloc_new _ _) (by omega) (by show _ ≤ (World.alloc _ _).heap.size; rw [World.size_alloc]; show w.heap.size ≤ wr.heap.size + 1; omega) ?_; intro v' w' O' g' ob'; have K' := HK.out w' (grown_trans' (grown_alloc (grown_drew (World.grownBy.refl wr _)) _) g' (.inl rfl))))
              have hRR := HR2.out
              rw [HD.out, hRe.out] at hRR
              have B' : Below w.heap.size w w' := (hbj.drew.alloc (Nat.le_trans zb zj) _).grown g' (by rw [World.size_alloc]; exact Nat.le_succ_of_le (Nat.le_trans zb zj)) (fun k hk => (hlo k hk).1)
              have HRR := Lib.hid hRR
              have HO' := Lib.hid O'
              have hsz := HSz.out
              have HNM := Lib.hid (nm255_app (d := ⟨(x0 : Int), nm, 256 * (x1 : Int) + (x2 : Int), (x3 : Int) == 1⟩) hNm.out (by show nm.size ≤ 510; omega))
              have hln : (L ++ [(⟨(x0 : Int), nm, 256 * (x1 : Int) + (x2 : Int), (x3 : Int) == 1⟩ : Nd)]).length = L.length + 1 := by simp
              generalize L ++ [(⟨(x0 : Int), nm, 256 * (x1 : Int) + (x2 : Int), (x3 : Int) == 1⟩ : Nd)] = L2 at *
              clear hRR O' K' KS g' ob' hsz
              go_wp2
              go_roundw
              case rel => exact ⟨L2, m, k', rfl, by have := Hk'.out; congr 1; omega, HF.out.2.1, by have := Hk'.out; have := HF.out.2.2; omega, HO', B', HRR, HNM⟩
              case measure => simp [intOf]; omega
        · have de : decide ((n : Int) < (qe : Int)) = true := by simp; omega
          have hfit : rdFit xs p = false := by unfold rdFit; rw [hre]; simp; omega
          have HX := Lib.hid (rdRes_out (hR'.out.symm.trans (rdMore_no hfit)))
          clear hn hlen hqe hq4 hq5
          go_wp2
          go_ret3
          exact rdPost_no HX.out hb
      · have d5 : decide ((n : Int) < (q5 : Int)) = true := by simp; omega
        have hfit : rdFit xs p = false := by unfold rdFit; simp; omega
        have HX := Lib.hid (rdRes_out (hR'.out.symm.trans (rdMore_no hfit)))
        clear hn hlen hq5
        go_wp2
        go_ret3
        exact rdPost_no HX.out hb
    · obtain rfl : k = 0 := by omega
      have HX := Lib.hid (show rdOut xs = some (L, p) from hR.out.symm.trans (rdMore_end xs L p))
      obtain ⟨A', c', rfl, hN⟩ := hO.out.nodes (by omega) (fun k d hd => by have := hNm.out k d hd; omega)
      have hpc : (p : Int) ≤ (c : Int) := by omega
      have p0 : (0 : Int) ≤ (p : Int) := by omega
      have HT := Lib.hid (fun W (hW : Below w.heap.size w W) (hN : NodesAt W wr.heap.size A' L.length c' L) (hz : wr.heap.size ≤ W.heap.size) => s_IsNodeTable A' L.length c' L _ W hN hz)
      cases ho : ntOk L
      · have HY := Lib.hid (rdRes_bad HX.out ho)
        rw [ho] at HT
        go_upto_region 17 with fail
        first
          | (go_region_with ((go_at_call 25; refine (HT.out _ hb.drew hN (Nat.le_refl _)).mono ?_; rintro e w2 ⟨rfl, b2⟩)))
          | fail
        all_goals go_wp2
        all_goals go_ret3
        all_goals exact rdPost_no HY.out (hb.drew.trans (b2.mono zb))
      · have HY := Lib.hid (rdRes_if HX.out ho)
        rw [ho] at HT
        have HE := Lib.hid (fun W hN hz => s_l10Bytes A' L.length c' L wr.heap.size W hN hz ho)
        have hel : (encK L L.length).length ≤ 400 := by
          have := encK_len (L := L) (fun k d hd => ndOk_nm (ntOk_nd ho hd)) L.length
          have := (ntOk_split ho).1
          omega
        generalize encK L L.length = E at *
        clear ho
        go_upto_region 17 with fail
        clear hn hlen
        first
          | (go_region_with (first
            | (go_at_call 25; refine (HT.out _ hb.drew hN (Nat.le_refl _)).mono ?_; rintro e w2 ⟨rfl, b2⟩; have N2 := NodesAt.below' (w := wr.drew) hN (Nat.le_refl _) b2; have z2 := b2.size)
            | (go_at_call 63; refine (HE.out _ N2 z2).mono ?_; rintro e w3 ⟨v3, rfl, o3, b3⟩; obtain ⟨A3, c3, rfl, i3⟩ := o3.ints (by omega))
            | (go_at_call 73; refine (s_l01Same A3 (some ad) _ _ p c E (xs.take p) _ _ w3 i3 ((HI.out.below' hB ((hb.drew.trans (b2.mono zb)).trans (b3.mono (Nat.le_trans zb z2)))).cutTo p hp)).mono ?_; rintro e w4 ⟨rfl, m4, rfl⟩)))
          | fail
        generalize eqL E (xs.take p) = bb at *
        have O4 := (NOwn.below_ (w := wr.drew) hO.out b2).below_ b3
        have B3 := (hb.drew.trans (b2.mono zb)).trans (b3.mono (Nat.le_trans zb z2))
        cases bb
        · have HZ := Lib.hid (show rdRes xs = none from HY.out.trans (by simp))
          go_wp2
          go_ret3
          exact rdPost_no HZ.out (below_drewN B3 m4)
        · have HZ := Lib.hid (show rdRes xs = some (L, p) from HY.out.trans (by simp))
          go_wp2
          go_ret3
          exact rdPost_yes HZ.out (NOwn.below_ (w := w3) O4 (below_drewN (Below.refl _ _) m4)) (below_drewN B3 m4)
end Go.Proofs.YtgenfffgenddmaaDoor

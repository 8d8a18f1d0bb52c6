/- Nodes: a name, a node, its copy and its size. -/
import Derived.Test.YtgenfffgenddmaaDoorTrim
import Derived.Test.YtgenfffgenddmaaDoorSc
import Derived.BigQuiet
import Derived.Lib.Hide
import Derived.Outline
import Derived.Deep.Cut
import Derived.Deep.CutRange
namespace Go.Proofs.YtgenfffgenddmaaDoor
open Go.RowKit
set_option linter.unusedSimpArgs false
set_option linter.unusedVariables false
/-- A letter or a digit of a name. -/
def okCh (c : UInt8) : Bool := (97 ≤ c.toNat && c.toNat ≤ 122) || (48 ≤ c.toNat && c.toNat ≤ 57)
def okNm (s : ByteArray) : Bool := decide (1 ≤ s.size ∧ s.size ≤ 6) && s.data.toList.all okCh
structure Nd where
  id : Int
  nm : ByteArray
  dr : Int
  pv : Bool
def Nd.cells (d : Nd) : Array Value := #[.int .i64 d.id, .string d.nm, .int .i64 d.dr, .bool d.pv]
def in31 (r : Int) : Bool := decide (0 ≤ r ∧ r ≤ 31)
def in1000 (r : Int) : Bool := decide (0 ≤ r ∧ r ≤ 1000)
def ndOk (d : Nd) : Bool := okNm d.nm && in31 d.id && in1000 d.dr
def cutS : List UInt8 := [97, 98, 99, 100, 101, 102, 103, 104, 105, 106, 107, 108, 109, 110, 111, 112, 113, 114, 115, 116, 117, 118, 119, 120, 121, 122, 48, 49, 50, 51, 52, 53, 54, 55, 56, 57]
theorem cut_ch (c : UInt8) : cutS.contains c = okCh c := by
  have h : ∀ n : Fin 256, cutS.contains (UInt8.ofNat n.val) = okCh (UInt8.ofNat n.val) := by decide +kernel
  have := h ⟨c.toNat, c.toNat_lt⟩
  simpa using this
theorem dropWhile_nil {α : Type} (p : α → Bool) : ∀ l : List α, l.dropWhile p = [] ↔ l.all p = true
  | [] => by simp
  | x :: l => by
    cases h : p x
    · simp [List.dropWhile_cons, h]
    · simp [List.dropWhile_cons, h, dropWhile_nil p l]
theorem all_dropWhile {α : Type} (p : α → Bool) : ∀ l : List α, (l.dropWhile p).all p = l.all p
  | [] => by simp
  | x :: l => by
    cases h : p x
    · simp [List.dropWhile_cons, h]
    · simp [List.dropWhile_cons, h, all_dropWhile p l]
theorem trim_nil (l : List UInt8) : (Lib.trimS l cutS = []) ↔ l.all okCh = true := by
  have e : (cutS.contains ·) = okCh := funext cut_ch
  unfold Lib.trimS Lib.trimLeftS Lib.trimRightS
  rw [e, dropWhile_nil, List.all_reverse, all_dropWhile, List.all_reverse]
theorem all_take_succ (l : List UInt8) (k : Nat) (h : k < l.length) : (l.take (k + 1)).all okCh = ((l.take k).all okCh && okCh l[k]) := by
  rw [List.take_succ_eq_append_getElem h, List.all_append]
  simp
theorem all_bad (l : List UInt8) (k : Nat) (h : k < l.length) (hb : okCh l[k] = false) : l.all okCh = false := by
  rw [List.all_eq_false]
  exact ⟨l[k], List.getElem_mem h, by simp [hb]⟩
theorem okCh_of (c : UInt8) : okCh c = decide ((97 ≤ c.toNat ∧ c.toNat ≤ 122) ∨ (48 ≤ c.toNat ∧ c.toNat ≤ 57)) := by
  unfold okCh; simp
set_option maxHeartbeats 1000000 in
theorem s_l10Name (s : ByteArray) (w : World) (hs : s.size ≤ maxLen) :
    Calls Tryd.prog 52 #[.string s] w fun e w' => e = .returned (.bool (okNm s)) ∧ w = w' := by
  unfold maxLen at hs
  go_enter Tryd.func52, Tryd.ntmps52
  go_wp2
  go_loop [3] (fun i => ∃ k : Nat, k ≤ s.size ∧ i = .int .i64 k ∧ Hid ((s.data.toList.take k).all okCh = true)) (fun i => s.size - (intOf i).toNat)
  case atStart => exact ⟨0, Nat.zero_le _, rfl, Lib.hid (by simp)⟩
  case round =>
    obtain ⟨k, hk, rfl, H⟩ := hrel
    by_cases hlt : k < s.size
    · have hl : k < s.data.toList.length := by simpa using hlt
      have hc := okCh_of s[k]
      have e : s.data.toList[k] = s[k] := rfl
      have hn := Lib.hid (show (s.data.toList.take (k + 1)).all okCh = decide ((97 ≤ s[k].toNat ∧ s[k].toNat ≤ 122) ∨ (48 ≤ s[k].toNat ∧ s[k].toNat ≤ 57)) by rw [all_take_succ s.data.toList k hl, H.out, e, hc, Bool.true_and])
      have hb := Lib.hid (show decide ((97 ≤ s[k].toNat ∧ s[k].toNat ≤ 122) ∨ (48 ≤ s[k].toNat ∧ s[k].toNat ≤ 57)) = false → s.data.toList.all okCh = false from fun h => all_bad s.data.toList k hl (by rw [e, hc]; exact h))
      have hno := Lib.hid (show s.data.toList.all okCh = false → okNm s = false by intro h; simp [okNm, h])
      clear hc e
      by_cases h1 : 97 ≤ s[k].toNat ∧ s[k].toNat ≤ 122
      · have d1 : decide ((s[k].toNat : Int) < 97) = false := by simp; omega
        have d2 : decide ((122 : Int) < (s[k].toNat : Int)) = false := by simp; omega
        have hT := Lib.hid (hn.out.trans (decide_eq_true (.inl h1)))
        clear hn hb hno h1
        go_wp2
        go_round
        case rel => exact ⟨k + 1, by omega, by go_num, hT⟩
        case measure => simp [intOf]; omega
      · by_cases h2 : 48 ≤ s[k].toNat ∧ s[k].toNat ≤ 57
        · have d1 : decide ((s[k].toNat : Int) < 97) = true := by simp; omega
          have d3 : decide ((s[k].toNat : Int) < 48) = false := by simp; omega
          have d4 : decide ((57 : Int) < (s[k].toNat : Int)) = false := by simp; omega
          have hT := Lib.hid (hn.out.trans (decide_eq_true (.inr h2)))
          clear hn hb hno h1 h2
          go_wp2
          go_round
          case rel => exact ⟨k + 1, by omega, by go_num, hT⟩
          case measure => simp [intOf]; omega
        · have hT := Lib.hid (hno.out (hb.out (by simp only [decide_eq_false_iff_not]; omega)))
          clear hn hb hno
          by_cases h3 : s[k].toNat < 48
          · have d1 : decide ((s[k].toNat : Int) < 97) = true := by simp; omega
            have d3 : decide ((s[k].toNat : Int) < 48) = true := by simp; omega
            clear h1 h2 h3
            go_wp2
            go_ret
            exact ⟨by rw [hT.out]; rfl, rfl⟩
          · by_cases h4 : s[k].toNat < 97
            · have d1 : decide ((s[k].toNat : Int) < 97) = true := by simp; omega
              have d3 : decide ((s[k].toNat : Int) < 48) = false := by simp; omega
              have d4 : decide ((57 : Int) < (s[k].toNat : Int)) = true := by simp; omega
              clear h1 h2 h3 h4
              go_wp2
              go_ret
              exact ⟨by rw [hT.out]; rfl, rfl⟩
            · have d1 : decide ((s[k].toNat : Int) < 97) = false := by simp; omega
              have d2 : decide ((122 : Int) < (s[k].toNat : Int)) = true := by simp; omega
              have d3 : decide ((s[k].toNat : Int) < 48) = false := by simp; omega
              have d4 : decide ((57 : Int) < (s[k].toNat : Int)) = true := by simp; omega
              clear h1 h2 h3 h4
              go_wp2
              go_ret
              exact ⟨by rw [hT.out]; rfl, rfl⟩
    · obtain rfl : k = s.size := by omega
      have hA : s.data.toList.all okCh = true := by have := H.out; rwa [List.take_of_length_le (by simp)] at this
      have hT := Lib.hid (show okNm s = decide (1 ≤ s.size ∧ s.size ≤ 6) by simp [okNm, hA])
      clear hA H
      by_cases h1 : 1 ≤ s.size
      · by_cases h2 : s.size ≤ 6
        · have d1 : decide ((1 : Int) ≤ (s.size : Int)) = true := by simp; omega
          have d2 : decide ((s.size : Int) ≤ 6) = true := by simp; omega
          have hE := Lib.hid (show decide (1 ≤ s.size ∧ s.size ≤ 6) = true by simp; omega)
          go_wp2
          go_ret
          exact ⟨by rw [hT.out, hE.out]; rfl, rfl⟩
        · have d1 : decide ((1 : Int) ≤ (s.size : Int)) = true := by simp; omega
          have d2 : decide ((s.size : Int) ≤ 6) = false := by simp; omega
          have hE := Lib.hid (show decide (1 ≤ s.size ∧ s.size ≤ 6) = false by simp; omega)
          go_wp2
          go_ret
          exact ⟨by rw [hT.out, hE.out]; rfl, rfl⟩
      · have d1 : decide ((1 : Int) ≤ (s.size : Int)) = false := by simp; omega
        have hE := Lib.hid (show decide (1 ≤ s.size ∧ s.size ≤ 6) = false by simp; omega)
        go_wp2
        go_ret
        exact ⟨by rw [hT.out, hE.out]; rfl, rfl⟩
def cutB : ByteArray := ⟨#[97, 98, 99, 100, 101, 102, 103, 104, 105, 106, 107, 108, 109, 110, 111, 112, 113, 114, 115, 116, 117, 118, 119, 120, 121, 122, 48, 49, 50, 51, 52, 53, 54, 55, 56, 57]⟩
theorem i_within_b (a lo hi : Int) (b : Bool) (w : World) (h : decide (lo ≤ a ∧ a ≤ hi) = b) : Calls Tryd.prog 56 #[.int .i64 a, .int .i64 lo, .int .i64 hi] w fun e w' => e = .returned (.bool b) ∧ w = w' := by
  subst h
  by_cases hh : lo ≤ a ∧ a ≤ hi
  · rw [decide_eq_true hh]; exact i_within_yes a lo hi _ hh.1 hh.2
  · rw [decide_eq_false hh]; exact i_within_no a lo hi _ (by omega)
theorem s_l01In_b (a lo hi : Int) (b : Bool) (w : World) (h : decide (lo ≤ a ∧ a ≤ hi) = b) : Calls Tryd.prog 53 #[.int .i64 a, .int .i64 lo, .int .i64 hi] w fun e w' => e = .returned (.bool b) ∧ w = w' := by
  subst h
  by_cases hh : lo ≤ a ∧ a ≤ hi
  · rw [decide_eq_true hh]; exact s_l01In_yes a lo hi _ hh.1 hh.2
  · rw [decide_eq_false hh]; exact s_l01In_no a lo hi _ (by omega)
theorem i_isNode (a : Int) (w : World) : Calls Tryd.prog 55 #[.int .i64 a] w fun e w' => e = .returned (.bool (in31 a)) ∧ w = w' := by
  have hT := Lib.hid (fun W => i_within_b a 0 31 (in31 a) W rfl)
  generalize in31 a = b at *
  go_enter Tryd.func55, Tryd.ntmps55
  go_wp2_with (go_at_call 56; refine (hT.out _).mono ?_; rintro e w' ⟨rfl, rfl⟩)
  go_ret
  exact ⟨rfl, rfl⟩
theorem s_l05Node (a : Int) (w : World) : Calls Tryd.prog 51 #[.int .i64 a] w fun e w' => e = .returned (.bool (in31 a)) ∧ w = w' := by
  have hT := Lib.hid (fun W => s_l01In_b a 0 31 (in31 a) W rfl)
  generalize in31 a = b at *
  go_enter Tryd.func51, Tryd.ntmps51
  go_wp2_with (go_at_call 53; refine (hT.out _).mono ?_; rintro e w' ⟨rfl, rfl⟩)
  go_ret
  exact ⟨rfl, rfl⟩
theorem cells4 {w : World} {g : Nat} {a b c d : Value} {t : TypeId} (h : w.heap[g]? = some (.cells #[a, b, c, d] t (0, 0))) :
    w.cell? ⟨g, 0, none⟩ = some a ∧ w.cell? ⟨g, 1, none⟩ = some b ∧ w.cell? ⟨g, 2, none⟩ = some c ∧ w.cell? ⟨g, 3, none⟩ = some d := by
  refine ⟨?_, ?_, ?_, ?_⟩ <;> simp [World.cell?, h]
set_option maxHeartbeats 1000000 in
theorem s_IsNodeInfo (d : Nd) (w : World) (hs : d.nm.size ≤ maxLen) :
    Calls Tryd.prog 21 #[.agg d.cells] w fun e w' => e = .returned (.bool (ndOk d)) ∧ Below w.heap.size w w' := by
  obtain ⟨i, s, r, p⟩ := d
  have h1 := Lib.hid (fun W => s_l05Node i W)
  have h2 := Lib.hid (fun W => s_l10Name s W hs)
  have h3 := Lib.hid (fun W => s_l01In_b r 0 1000 (in1000 r) W rfl)
  have hO := Lib.hid (show ndOk ⟨i, s, r, p⟩ = (okNm s && in31 i && in1000 r) from rfl)
  have hB := (Below.refl w.heap.size w).alloc (Nat.le_refl _) (.cells #[.int .i64 i, .string s, .int .i64 r, .bool p] 36)
  generalize ndOk ⟨i, s, r, p⟩ = ok at *
  generalize okNm s = b1 at *
  generalize in31 i = b2 at *
  generalize in1000 r = b3 at *
  unfold Nd.cells
  cases b2
  · obtain rfl : ok = false := by rw [hO.out]; cases b1 <;> rfl
    go_enter Tryd.func21, Tryd.ntmps21
    go_wp2_with (go_at_call 51; refine (h1.out _).mono ?_; rintro e w' ⟨rfl, rfl⟩)
    go_ret
    exact ⟨rfl, hB⟩
  · cases b1
    · obtain rfl : ok = false := by rw [hO.out]; rfl
      go_enter Tryd.func21, Tryd.ntmps21
      go_wp2_with (first | (go_at_call 51; refine (h1.out _).mono ?_; rintro e w' ⟨rfl, rfl⟩) | (go_at_call 52; refine (h2.out _).mono ?_; rintro e w' ⟨rfl, rfl⟩))
      go_ret
      exact ⟨rfl, hB⟩
    · obtain rfl : ok = b3 := by rw [hO.out]; rfl
      go_enter Tryd.func21, Tryd.ntmps21
      go_wp2_with (first | (go_at_call 51; refine (h1.out _).mono ?_; rintro e w' ⟨rfl, rfl⟩) | (go_at_call 52; refine (h2.out _).mono ?_; rintro e w' ⟨rfl, rfl⟩) | (go_at_call 53; refine (h3.out _).mono ?_; rintro e w' ⟨rfl, rfl⟩))
      go_ret
      exact ⟨rfl, hB⟩
theorem i_Trim (s : ByteArray) (w : World) (hs : s.size ≤ maxLen) :
    Calls Tryd.prog 54 #[.string s, .string cutB] w fun e w' => (∃ r : ByteArray, e = .returned (.string r) ∧ (r.data.toList = [] ↔ s.data.toList.all okCh = true)) ∧ Below w.heap.size w w' :=
  (s_Trim s cutB w (by unfold maxLen at hs; omega) (by decide) (Go.Proofs.ascii_of_all (by decide))).mono fun e w' ⟨he, hb⟩ => ⟨⟨_, he, trim_nil _⟩, hb⟩
set_option maxHeartbeats 1000000 in
theorem i_IsNodeInfo (d : Nd) (w : World) (hs : d.nm.size ≤ maxLen) :
    Calls Tryd.prog 23 #[.agg d.cells] w fun e w' => e = .returned (.bool (ndOk d)) ∧ Below w.heap.size w w' := by
  obtain ⟨i, s, r, p⟩ := d
  have h1 := Lib.hid (fun W => i_isNode i W)
  have h2 := Lib.hid (fun W => i_Trim s W hs)
  have h3 := Lib.hid (fun W => i_within_b r 0 1000 (in1000 r) W rfl)
  unfold maxLen at hs
  unfold cutB at h2
  have hO := Lib.hid (show ndOk ⟨i, s, r, p⟩ = ((decide (1 ≤ s.size ∧ s.size ≤ 6) && s.data.toList.all okCh) && in31 i && in1000 r) from rfl)
  have hR := heap_alloc_new w (.cells #[.int .i64 i, .string s, .int .i64 r, .bool p] 36)
  have hB := (Below.refl w.heap.size w).alloc (Nat.le_refl _) (.cells #[.int .i64 i, .string s, .int .i64 r, .bool p] 36)
  generalize ndOk ⟨i, s, r, p⟩ = ok at *
  generalize in31 i = b2 at *
  generalize in1000 r = b3 at *
  generalize s.data.toList.all okCh = b4 at *
  unfold Nd.cells
  by_cases l1 : 1 ≤ s.size
  · by_cases l2 : s.size ≤ 6
    · have d1 : decide ((1 : Int) ≤ (s.size : Int)) = true := by simp; omega
      have d2 : decide ((s.size : Int) ≤ 6) = true := by simp; omega
      have hO2 := Lib.hid (show ok = (b4 && b2 && b3) by rw [hO.out, decide_eq_true ⟨l1, l2⟩, Bool.true_and])
      clear hO
      go_enter Tryd.func23, Tryd.ntmps23
      go_wp2_with fail
      generalize World.alloc _ _ = W at *
      have hgW : w.heap.size ≤ W.heap.size := hB.size
      generalize hg : w.heap.size = g at *
      have HG := Lib.hid hg
      have hgl : g < W.heap.size := by
        rcases Nat.lt_or_ge g W.heap.size with h | h
        · exact h
        · rw [Array.getElem?_eq_none h] at hR; cases hR
      clear hg
      refine (h2.out W).mono ?_
      rintro e w2 ⟨⟨t, rfl, ht⟩, bt⟩
      have hB2 := Lib.hid (hB.trans (bt.mono hgW))
      obtain ⟨c0, c1, c2, c3⟩ := cells4 ((bt.block g hgl).trans hR)
      clear hB bt h2 hR
      cases b4
      · obtain rfl : ok = false := by rw [hO2.out]; rfl
        have t1 : t.data.toList ≠ [] := fun e => by have := ht.1 e; cases this
        rw [← ByteArray.toList_eq] at t1
        have t2 : t.toList.isEmpty = false := by cases h : t.toList <;> simp_all
        clear ht
        go_wp2
        go_ret
        exact ⟨rfl, by rw [HG.out]; exact hB2.out⟩
      · obtain rfl : t = ⟨#[]⟩ := by
          have := ht.2 rfl
          cases t with | mk a => cases a with | mk l => simp at this; subst this; rfl
        clear ht
        cases b2
        · obtain rfl : ok = false := by rw [hO2.out]; rfl
          go_wp2_with (first | (go_at_call 55; refine (h1.out _).mono ?_; rintro e w' ⟨rfl, rfl⟩))
          go_ret
          exact ⟨rfl, by rw [HG.out]; exact hB2.out⟩
        · obtain rfl : ok = b3 := by rw [hO2.out]; rfl
          go_wp2_with (first | (go_at_call 55; refine (h1.out _).mono ?_; rintro e w' ⟨rfl, rfl⟩) | (go_at_call 56; refine (h3.out _).mono ?_; rintro e w' ⟨rfl, rfl⟩))
          go_ret
          exact ⟨rfl, by rw [HG.out]; exact hB2.out⟩
    · have d1 : decide ((1 : Int) ≤ (s.size : Int)) = true := by simp; omega
      have d2 : decide ((s.size : Int) ≤ 6) = false := by simp; omega
      obtain rfl : ok = false := by rw [hO.out, decide_eq_false (fun h => l2 h.2)]; rfl
      clear hO hR
      go_enter Tryd.func23, Tryd.ntmps23
      go_wp2
      go_ret
      exact ⟨rfl, hB⟩
  · have d1 : decide ((1 : Int) ≤ (s.size : Int)) = false := by simp; omega
    obtain rfl : ok = false := by rw [hO.out, decide_eq_false (fun h => l1 h.1)]; rfl
    clear hO hR
    go_enter Tryd.func23, Tryd.ntmps23
    go_wp2
    go_ret
    exact ⟨rfl, hB⟩
end Go.Proofs.YtgenfffgenddmaaDoor

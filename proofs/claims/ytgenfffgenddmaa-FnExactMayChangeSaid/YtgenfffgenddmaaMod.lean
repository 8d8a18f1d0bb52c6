/- Mode tables in memory: how one reads, its size. -/
import Derived.Test.YtgenfffgenddmaaHelp
import Derived.Test.YtgenfffgenddmaaVec
import Derived.Test.YtgenfffgenddmaaOpenF
import Derived.Deep.RegionHeld3
namespace Go.Proofs.Ytgenfffgenddmaa
open Go.RowKit
set_option linter.unusedSimpArgs false
set_option linter.unusedVariables false
/-- A mode: its rounds, its slots, the modes that may come next. -/
structure Md where
  r : Int
  s : Int
  xs : List Int
/-- A mode with the place of its slice. -/
structure Mp where
  m : Md
  A : Option Addr
  c : Nat
def mpCells (w : World) (ad : Addr) (k : Nat) (d : Md) (A : Option Addr) (c : Nat) : Prop :=
  w.cell? (ad.add (k * 3)) = some (.int .i64 d.r) ∧ w.cell? ⟨(ad.add (k * 3)).block, (ad.add (k * 3)).off + 1, none⟩ = some (.int .i64 d.s) ∧ w.cell? ⟨(ad.add (k * 3)).block, (ad.add (k * 3)).off + 2, none⟩ = some (.slice A d.xs.length c)
theorem add_off (a : Addr) (i j : Nat) (h : 0 < j) : a.add (i + j) = ⟨(a.add i).block, (a.add i).off + j, none⟩ := by
  rw [← add_add']
  generalize a.add i = b
  unfold Addr.add
  rw [if_neg (by omega)]
theorem mpCells.keep {w w' : World} {ad : Addr} {k : Nat} {d : Md} {A : Option Addr} {c : Nat} (h : mpCells w ad k d A c) (hk : ∀ p : Addr, p.block = ad.block → w'.cell? p = w.cell? p) : mpCells w' ad k d A c :=
  ⟨(hk _ (block_add _ _)).trans h.1, (hk ⟨_, _, none⟩ (block_add ad (k * 3))).trans h.2.1, (hk ⟨_, _, none⟩ (block_add ad (k * 3))).trans h.2.2⟩
/-- What a law's frame knows of an argument that is a list of modes. -/
def ArgModes (w : World) (A : Option Addr) (n c : Nat) (L : List Mp) : Prop :=
  L.length = n ∧ n ≤ c ∧ c ≤ maxLen ∧ (0 < n → ∃ ad : Addr, A = some ad ∧ ad.block < w.heap.size ∧ ∀ (k : Nat) (e : Mp), L[k]? = some e → mpCells w ad k e.m e.A e.c ∧ ArgInts w e.A e.m.xs.length e.c e.m.xs)
/-- A slice that reads as a list of modes, below block B. -/
def ModesAt (w : World) (B : Nat) (A : Option Addr) (n c : Nat) (M : List Md) : Prop :=
  M.length = n ∧ n ≤ c ∧ n ≤ 1048576 ∧ c ≤ maxLen ∧ (0 < n → ∃ ad : Addr, A = some ad ∧ ad.block < B ∧ ∀ (k : Nat) (d : Md), M[k]? = some d → ∃ (A' : Option Addr) (c' : Nat), mpCells w ad k d A' c' ∧ IntsAt w B A' d.xs.length c' d.xs)
section
variable {w w' : World} {B B' n c : Nat} {A : Option Addr} {L : List Mp} {M : List Md}
theorem ModesAt.below' (h : ModesAt w B A n c M) (hB : B ≤ B') (hb : Below B' w w') : ModesAt w' B A n c M :=
  ⟨h.1, h.2.1, h.2.2.1, h.2.2.2.1, fun hn => by
    obtain ⟨ad, e, hBl, hc⟩ := h.2.2.2.2 hn
    refine ⟨ad, e, hBl, fun k d hd => ?_⟩
    obtain ⟨A', c', cs, I⟩ := hc k d hd
    exact ⟨A', c', cs.keep fun p hp => hb.cell (by rw [hp]; omega), I.below' hB hb⟩⟩
theorem ModesAt.more (h : ModesAt w B A n c M) (hB : B ≤ B') : ModesAt w B' A n c M :=
  ⟨h.1, h.2.1, h.2.2.1, h.2.2.2.1, fun hn => by
    obtain ⟨ad, e, hBl, hc⟩ := h.2.2.2.2 hn
    refine ⟨ad, e, by omega, fun k d hd => ?_⟩
    obtain ⟨A', c', cs, I⟩ := hc k d hd
    exact ⟨A', c', cs, I.more hB⟩⟩
theorem ModesAt.drewN (h : ModesAt w B A n c M) (k : Nat) : ModesAt (w.drewN k) B A n c M := h
theorem ModesAt.at_ (h : ModesAt w B A n c M) (k : Nat) (hk : k < n) : ∃ (ad : Addr) (d : Md) (A' : Option Addr) (c' : Nat), A = some ad ∧ ad.block < B ∧ M[k]? = some d ∧ mpCells w ad k d A' c' ∧ IntsAt w B A' d.xs.length c' d.xs := by
  obtain ⟨ad, e, hB, hc⟩ := h.2.2.2.2 (by omega)
  have hl := h.1
  obtain ⟨A', c', cs, I⟩ := hc k _ (List.getElem?_eq_getElem (by omega))
  exact ⟨ad, _, A', c', e, hB, List.getElem?_eq_getElem (by omega), cs, I⟩
theorem ArgModes.at_ (h : ArgModes w A n c L) (k : Nat) (hk : k < n) : ∃ (ad : Addr) (e : Mp), A = some ad ∧ ad.block < w.heap.size ∧ L[k]? = some e ∧ mpCells w ad k e.m e.A e.c ∧ ArgInts w e.A e.m.xs.length e.c e.m.xs := by
  obtain ⟨ad, e, hB, hc⟩ := h.2.2.2 (by omega)
  have hl := h.1
  exact ⟨ad, _, e, hB, List.getElem?_eq_getElem (by omega), hc k _ (List.getElem?_eq_getElem (by omega))⟩
theorem ArgModes.modes (h : ArgModes w A n c L) (hn : n ≤ 1048576) (hx : ∀ (k : Nat) (e : Mp), L[k]? = some e → e.m.xs.length ≤ 1048576) : ModesAt w w.heap.size A n c (L.map (·.m)) :=
  ⟨by rw [List.length_map]; exact h.1, h.2.1, hn, h.2.2.1, fun h0 => by
    obtain ⟨ad, e, hB, hc⟩ := h.2.2.2 h0
    refine ⟨ad, e, hB, fun k d hd => ?_⟩
    rw [List.getElem?_map] at hd
    cases hk : L[k]? with
    | none => rw [hk] at hd; cases hd
    | some e =>
      rw [hk] at hd
      injection hd with hd
      subst hd
      exact ⟨e.A, e.c, (hc k e hk).1, (hc k e hk).2.2.2.2.2 (by have := hx k e hk; omega)⟩⟩
end
/-- What the size's walk says of a table. -/
def SzPost (n : Nat) (L : List Mp) (w : World) (e : Ending) (w' : World) : Prop := ∃ x : Int, e = .returned (.int .i64 x) ∧ (0 ≤ x → n ≤ 1048576 ∧ ∀ (k : Nat) (e : Mp), L[k]? = some e → e.m.xs.length ≤ 1048576) ∧ Below w.heap.size w w'
def szV (n : Nat) (left : Int) : Int := if left - n < 0 then -1 else left - n
theorem szV_le (n : Nat) (x : Int) (h : x ≤ 1048576) : -1 ≤ szV n x ∧ szV n x ≤ 1048576 ∧ (0 ≤ szV n x → (n : Int) ≤ x) := by unfold szV; split <;> omega
theorem h_szInt64S (A : Option Addr) (n c : Nat) (x : Int) (w : World) (hn : n ≤ maxLen) (hx : 0 ≤ x ∧ x ≤ 1048576) :
    Calls Try.prog 23 #[.slice A n c, .int .i64 x] w fun e w' => e = .returned (.int .i64 (szV n x)) ∧ w = w' := by
  unfold maxLen at hn
  obtain ⟨x0, x1⟩ := hx
  have hw : IntKind.i64.wrap (x - n) = x - n := IntWalk.i64_in _ (by omega)
  by_cases h : x - n < 0
  · have e : szV n x = -1 := by unfold szV; rw [if_pos h]
    rw [e]
    go_enter Try.func23, Try.ntmps23
    go_wp2
    go_ret
    exact ⟨rfl, rfl⟩
  · have e : szV n x = x - n := by unfold szV; rw [if_neg h]
    rw [e]
    have h' : decide (x - (n : Int) < 0) = false := by simpa using h
    clear e
    go_enter Try.func23, Try.ntmps23
    go_wp2
    go_ret
    exact ⟨rfl, rfl⟩
theorem h_szModeInfo (r s : Int) (A : Option Addr) (n c : Nat) (x : Int) (w : World) (hn : n ≤ maxLen) (hx : 0 ≤ x ∧ x ≤ 1048576) :
    Calls Try.prog 12 #[.agg #[.int .i64 r, .int .i64 s, .slice A n c], .int .i64 x] w fun e w' => e = .returned (.int .i64 (szV n x)) ∧ Below w.heap.size w w' := by
  have hS := Lib.hid (fun W => h_szInt64S A n c x W hn hx)
  have hb := Lib.hid (szV_le n x hx.2)
  have hv : szV n x < 0 → szV n x = -1 := by unfold szV; split <;> omega
  generalize szV n x = y at *
  by_cases hy : y < 0
  · obtain rfl := hv hy
    go_enter Try.func12, Try.ntmps12
    go_wp2_with (go_at_call 23; refine (hS.out _).mono ?_; rintro e w' ⟨rfl, rfl⟩)
    go_ret
    exact ⟨rfl, (Below.refl _ _).alloc (Nat.le_refl _) _⟩
  · clear hv
    have hy' : decide (y < 0) = false := by simpa using hy
    go_enter Try.func12, Try.ntmps12
    go_wp2_with (go_at_call 23; refine (hS.out _).mono ?_; rintro e w' ⟨rfl, rfl⟩)
    go_ret
    exact ⟨rfl, (Below.refl _ _).alloc (Nat.le_refl _) _⟩
set_option maxHeartbeats 1000000 in
theorem h_szModeInfoS (A : Option Addr) (n c : Nat) (L : List Mp) (w : World) (h : ArgModes w A n c L) :
    Calls Try.prog 5 #[.slice A n c, .int .i64 1048576] w (SzPost n L w) := by
  have hc := h.2.2.1
  have hnc := h.2.1
  have hll := h.1
  unfold maxLen at hc
  have hw : IntKind.i64.wrap (1048576 - (n : Int)) = 1048576 - (n : Int) := IntWalk.i64_in _ (by omega)
  by_cases hn : n ≤ 1048576
  · have hd : decide ((1048576 : Int) - n < 0) = false := by simp; omega
    have hr : 0 ≤ (1048576 : Int) - n ∧ (1048576 : Int) - n ≤ 1048576 := by omega
    have hL := Lib.hid hll
    clear hll
    go_enter Try.func5, Try.ntmps5
    go_wp2
    go_loopw [1, 5] (fun v i wr => ∃ (k : Nat) (x : Int), k ≤ n ∧ i = .int .i64 k ∧ v = .int .i64 x ∧ 0 ≤ x ∧ x ≤ 1048576 ∧ Hid (∀ j e, j < k → L[j]? = some e → e.m.xs.length ≤ 1048576) ∧ Below w.heap.size w wr) (fun _ i _ => n - (intOf i).toNat)
    case atStart => exact ⟨0, _, Nat.zero_le _, rfl, rfl, hr.1, hr.2, Lib.hid (fun j e hj => by omega), Below.refl _ _⟩
    case round =>
      clear hr hd hw
      obtain ⟨k, x, hk, rfl, rfl, x0, x1, H, hb⟩ := hrel
      by_cases hlt : k < n
      · obtain ⟨ad, e, rfl, hab, he, cs, hI⟩ := h.at_ k hlt
        obtain ⟨c0, c1, c2⟩ := cs.keep fun p hp => hb.cell (by rw [hp]; exact hab)
        have hm : e.m.xs.length ≤ maxLen := Nat.le_trans hI.1 hI.2.1
        have hS := Lib.hid (fun W => h_szModeInfo e.m.r e.m.s e.A e.m.xs.length e.c x W hm ⟨x0, x1⟩)
        obtain ⟨s0, s1, s2⟩ := szV_le e.m.xs.length x x1
        have hs2 := Lib.hid s2
        have He := Lib.hid he
        clear hI s2 he
        generalize hN : e.m.xs.length = N at *
        have HN := Lib.hid hN
        clear hN
        generalize szV N x = y at *
        go_wp2_with fail
        refine (hS.out _).mono ?_
        rintro e' w2 ⟨rfl, b2⟩
        have hb2 := hb.trans (b2.mono hb.size)
        clear hb b2 hS c0 c1 c2
        by_cases hy : y < 0
        · go_wp2
          go_ret
          exact ⟨-1, rfl, fun h => by omega, hb2⟩
        · have hy' : decide (y < 0) = false := by simpa using hy
          go_wp2
          go_roundw
          case rel => exact ⟨k + 1, y, by omega, by go_num, rfl, by omega, s1, Lib.hid (fun j d hj hd => by
            by_cases e : j = k
            · subst e
              have := He.out.symm.trans hd
              injection this with this
              subst this
              have := hs2.out (by omega)
              have := HN.out
              omega
            · exact H.out j d (by omega) hd), hb2⟩
          case measure => simp [intOf]; omega
      · go_wp2
        go_ret
        exact ⟨x, rfl, fun _ => ⟨hn, fun j d hd => H.out j d (by
          have := (List.getElem?_eq_some_iff.1 hd).1
          have := hL.out
          omega) hd⟩, hb⟩
  · have hd : decide ((1048576 : Int) - n < 0) = true := by simp; omega
    clear hll h
    go_enter Try.func5, Try.ntmps5
    go_wp2
    go_ret
    exact ⟨-1, rfl, fun h => by omega, Below.refl _ _⟩
end Go.Proofs.Ytgenfffgenddmaa

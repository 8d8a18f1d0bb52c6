/- Numbers as bits: appendNumber, the bits of a state, where two lists differ, their sum. -/
import Derived.Test.YtecelofoffdjlaaByt
import Derived.Test.YtecelofoffdjlaaNum
import Derived.Deep.Cut
namespace Go.Proofs.Ytecelofoffdjlaa
open Go.RowKit
set_option linter.unusedSimpArgs false
set_option linter.unusedVariables false
/-- The last K bits of v, the highest first. -/
def bitsN (v : Nat) : Nat → List Int
  | 0 => []
  | k + 1 => ((v / 2 ^ k % 2 : Nat) : Int) :: bitsN v k
theorem bitsN_len (v K : Nat) : (bitsN v K).length = K := by
  induction K with
  | zero => rfl
  | succ k ih => simp [bitsN, ih]
theorem bitsN_mem (v K : Nat) : ∀ x ∈ bitsN v K, 0 ≤ x ∧ x ≤ 1 := by
  induction K with
  | zero => intro x hx; cases hx
  | succ k ih =>
    intro x hx
    rcases List.mem_cons.1 hx with rfl | hx
    · omega
    · exact ih x hx
theorem bit_and (v k : Nat) (hv : v < 9223372036854775808) : bits .and .i64 ((v : Int) / 2 ^ k) 1 = ((v / 2 ^ k % 2 : Nat) : Int) := by
  have e : ((v : Int) / 2 ^ k) = ((v / 2 ^ k : Nat) : Int) := by simp
  rw [e, show (1 : Int) = ((1 : Nat) : Int) from rfl, and_nat _ _ (by have := Nat.div_le_self v (2 ^ k); omega) (by omega), Nat.and_one_is_mod]
set_option maxHeartbeats 1000000 in
theorem i_appendNumber (v K : Nat) (lv : Value) (xs : List Int) (base : Nat) (w : World) (hown : IOwn w base lv xs) (hbase : base ≤ w.heap.size) (hv : v < 9223372036854775808) (hK : K ≤ 63) (hx : xs.length ≤ 16000000) :
    Calls Try.prog 122 #[lv, .int .i64 v, .int .i64 K] w fun e w' => ∃ v', e = .returned v' ∧ IOwn w' base v' (xs ++ bitsN v K) ∧ Below base w w' := by
  have hvb := bit_and v
  have HV := Lib.hid hvb; clear hvb
  go_enter Try.func122, Try.ntmps122
  go_wp2
  go_loopw [0, 7] (fun q i wr => ∃ (k : Nat) (j : Int), k ≤ K ∧ i = .int .i64 j ∧ j + 1 = k ∧ ∃ ys, IOwn wr base q ys ∧ Hid (ys ++ bitsN v k = xs ++ bitsN v K) ∧ ys.length + k ≤ 16000064 ∧ Below base w wr) (fun _ i _ => (intOf i + 1).toNat)
  case atStart => exact ⟨K, K - 1, Nat.le_refl _, by go_num, by omega, xs, hown, rfl, by omega, Below.refl _ _⟩
  case round =>
    obtain ⟨k, j, hk, rfl, hj, ys, hown1, He, hlen, hb⟩ := hrel
    have hsz := hb.size
    rcases k with _ | k
    · obtain rfl : j = -1 := by omega
      go_wp2
      go_ret
      refine ⟨_, rfl, ?_, hb⟩
      rw [← He.out]; simpa [bitsN] using hown1
    · obtain rfl : j = k := by omega
      have he := HV.out k hv
      have HE := Lib.hid he; clear he
      go_wp2_with (at_builtin; refine wpList_app _ rfl _ _ 29 rfl base Try.underlying29 int_info _ ys rfl (hown1.alloc _) _ _ 1 1 [bits .and .i64 ((v : Int) / 2 ^ k) 1] rfl (lit_ints wr [bits .and .i64 ((v : Int) / 2 ^ k) 1] 2 (by simp)) (by simp; omega) (by simp; omega) ?_; intro v' w' hown' hg' _)
      have hb' := app_below' hb (Nat.le_refl _) (by omega) hown1 hg'
      go_roundw
      case rel => exact ⟨k, (k : Int) - 1, by omega, by go_num, by omega, _, hown', by show _ = _; rw [HE.out, List.append_assoc]; exact He.out, by simp; omega, hb'⟩
      case measure => simp [intOf]
set_option maxHeartbeats 1000000 in
theorem s_l01Append (v K : Nat) (A : Option Addr) (n c : Nat) (xs : List Int) (B : Nat) (w : World) (h : IntsAt w B A n c xs) (hB : B ≤ w.heap.size) (hv : v < 9223372036854775808) (hK : K ≤ 63) (hx : n ≤ 16000000) :
    Calls Try.prog 112 #[.slice A n c, .int .i64 v, .int .i64 K] w fun e w' => ∃ v', e = .returned v' ∧ IOwn w' w.heap.size v' (xs ++ bitsN v K) ∧ Below w.heap.size w w' := by
  have hvb := bit_and v
  have HV := Lib.hid hvb; clear hvb
  have hl := h.len
  go_enter Try.func112, Try.ntmps112
  go_wp2_with (at_builtin; refine wpList_app _ rfl _ _ 29 rfl w.heap.size Try.underlying29 int_info _ [] rfl (lit_own w [] _ (Nat.le_refl _) (by simp)) _ _ _ _ xs rfl (h.alloc hB _) (by simp; omega) (by simp) ?_; intro v0 w0 hown0 hg0 _)
  have hb0 : Below w.heap.size w w0 := ((Below.refl _ _).alloc (Nat.le_refl _) _).grown hg0 (by simp) (fun k hk => ((lit_own w [] _ (Nat.le_refl _) (by simp)).lt k hk).1)
  rw [List.nil_append] at hown0
  go_wp2
  go_loopw [7, 8] (fun q i wr => ∃ (k : Nat) (j : Int), k ≤ K ∧ i = .int .i64 j ∧ j + 1 = k ∧ ∃ ys, IOwn wr w.heap.size q ys ∧ Hid (ys ++ bitsN v k = xs ++ bitsN v K) ∧ ys.length + k ≤ 16000064 ∧ Below w.heap.size w wr) (fun _ i _ => (intOf i + 1).toNat)
  case atStart => exact ⟨K, K - 1, Nat.le_refl _, by go_num, by omega, xs, hown0, rfl, by omega, hb0⟩
  case round =>
    obtain ⟨k, j, hk, rfl, hj, ys, hown1, He, hlen, hb⟩ := hrel
    have hsz := hb.size
    rcases k with _ | k
    · obtain rfl : j = -1 := by omega
      go_wp2
      go_ret
      refine ⟨_, rfl, ?_, hb⟩
      rw [← He.out]; simpa [bitsN] using hown1
    · obtain rfl : j = k := by omega
      have he := HV.out k hv
      have HE := Lib.hid he; clear he
      go_wp2_with (at_builtin; refine wpList_app _ rfl _ _ 29 rfl w.heap.size Try.underlying29 int_info _ ys rfl (hown1.alloc _) _ _ 1 1 [bits .and .i64 ((v : Int) / 2 ^ k) 1] rfl (lit_ints wr [bits .and .i64 ((v : Int) / 2 ^ k) 1] 2 (by simp)) (by simp; omega) (by simp; omega) ?_; intro v' w' hown' hg' _)
      have hb' := app_below' hb (Nat.le_refl _) (by omega) hown1 hg'
      go_roundw
      case rel => exact ⟨k, (k : Int) - 1, by omega, by go_num, by omega, _, hown', by show _ = _; rw [HE.out, List.append_assoc]; exact He.out, by simp; omega, hb'⟩
      case measure => simp [intOf]
end Go.Proofs.Ytecelofoffdjlaa

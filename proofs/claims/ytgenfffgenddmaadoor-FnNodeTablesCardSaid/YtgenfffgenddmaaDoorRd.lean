/- A node table read from bytes: the plain parser, no program in sight. -/
import Derived.Test.YtgenfffgenddmaaDoorNod10
namespace Go.Proofs.YtgenfffgenddmaaDoor
set_option linter.unusedSimpArgs false
set_option linter.unusedVariables false
def rdNm (xs : List Int) (p len : Nat) : ByteArray := ⟨(((xs.drop p).take len).map fun x => UInt8.ofNat x.toNat).toArray⟩
def rdLen (xs : List Int) (p : Nat) : Nat := (xs.getD (p + 4) 0).toNat
def rdEnd (xs : List Int) (p : Nat) : Nat := p + 5 + rdLen xs p
def rdNd (xs : List Int) (p : Nat) : Nd := ⟨xs.getD p 0, rdNm xs (p + 5) (rdLen xs p), 256 * xs.getD (p + 1) 0 + xs.getD (p + 2) 0, xs.getD (p + 3) 0 == 1⟩
def rdFit (xs : List Int) (p : Nat) : Bool := decide (p + 5 ≤ xs.length) && decide (rdEnd xs p ≤ xs.length)
def rd (xs : List Int) : Nat → Nat → Option (List Nd × Nat)
  | 0, p => some ([], p)
  | k + 1, p => if rdFit xs p = true then (rd xs k (rdEnd xs p)).map fun q => (rdNd xs p :: q.1, q.2) else none
/-- What is still to be read behind the nodes acc. -/
def rdMore (xs : List Int) (acc : List Nd) (k p : Nat) : Option (List Nd × Nat) := (rd xs k p).map fun q => (acc ++ q.1, q.2)
theorem rdMore_start (xs : List Int) (k p : Nat) : rdMore xs [] k p = rd xs k p := by
  unfold rdMore
  cases rd xs k p <;> simp
theorem rdMore_end (xs : List Int) (acc : List Nd) (p : Nat) : rdMore xs acc 0 p = some (acc, p) := by simp [rdMore, rd]
theorem rdMore_step {xs : List Int} {acc : List Nd} {k p : Nat} (h : rdFit xs p = true) : rdMore xs acc (k + 1) p = rdMore xs (acc ++ [rdNd xs p]) k (rdEnd xs p) := by
  unfold rdMore
  rw [rd, if_pos h]
  cases rd xs k (rdEnd xs p) <;> simp
theorem rdMore_no {xs : List Int} {acc : List Nd} {k p : Nat} (h : rdFit xs p = false) : rdMore xs acc (k + 1) p = none := by
  unfold rdMore
  rw [rd, if_neg (by simp [h])]
  rfl
theorem rdNm_size {xs : List Int} {p len : Nat} (h : p + len ≤ xs.length) : (rdNm xs p len).size = len := by
  show ((((xs.drop p).take len).map fun x => UInt8.ofNat x.toNat).toArray).size = len
  simp; omega
end Go.Proofs.YtgenfffgenddmaaDoor

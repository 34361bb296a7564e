/- Check, of the program and of the reference, returns checkE. -/
import Derived.Test.YtollifnnpihfdaaDoorName
import Derived.Test.YtollifnnpihfdaaDoorOwn
namespace Go.Proofs.YtollifnnpihfdaaDoor
open Go.RowKit
/-- A pair as a value. -/
abbrev pairV (nm : ByteArray) (kd nu : Int) (tx : ByteArray) : Value := .agg #[.string nm, .int .i64 kd, .int .i64 nu, .string tx]
def checkE (nm : ByteArray) (kd nu : Int) (tx : ByteArray) : Int :=
  if nameB nm.data.toList = false then 22 else if kd < 1 ∨ 3 < kd ∨ (kd ≠ 1 ∧ nu ≠ 0) ∨ (kd ≠ 2 ∧ tx.size ≠ 0) then 23 else if 640 < tx.size then 20 else 0
theorem checkE_name {nm : ByteArray} {kd nu : Int} {tx : ByteArray} (h : nameB nm.data.toList = false) : checkE nm kd nu tx = 22 := if_pos h
theorem checkE_kind {nm : ByteArray} {kd nu : Int} {tx : ByteArray} (h : nameB nm.data.toList = true) (k : kd < 1 ∨ 3 < kd ∨ (kd ≠ 1 ∧ nu ≠ 0) ∨ (kd ≠ 2 ∧ tx.size ≠ 0)) : checkE nm kd nu tx = 23 := by
  unfold checkE; rw [if_neg (by rw [h]; simp), if_pos k]
theorem checkE_long {nm : ByteArray} {kd nu : Int} {tx : ByteArray} (h : nameB nm.data.toList = true) (k : ¬ (kd < 1 ∨ 3 < kd ∨ (kd ≠ 1 ∧ nu ≠ 0) ∨ (kd ≠ 2 ∧ tx.size ≠ 0))) (l : 640 < tx.size) : checkE nm kd nu tx = 20 := by
  unfold checkE; rw [if_neg (by rw [h]; simp), if_neg k, if_pos l]
theorem checkE_ok {nm : ByteArray} {kd nu : Int} {tx : ByteArray} (h : nameB nm.data.toList = true) (k : ¬ (kd < 1 ∨ 3 < kd ∨ (kd ≠ 1 ∧ nu ≠ 0) ∨ (kd ≠ 2 ∧ tx.size ≠ 0))) (l : ¬ 640 < tx.size) : checkE nm kd nu tx = 0 := by
  unfold checkE; rw [if_neg (by rw [h]; simp), if_neg k, if_neg l]

end Go.Proofs.YtollifnnpihfdaaDoor

/- Has, of the program and of the reference; Valid. -/
import Derived.Test.YtllomoplpoeggaaDoorMaskOf
namespace Go.Proofs.YtllomoplpoeggaaDoor
open Go.RowKit
/-- The call n is in the set m. -/
def hasB (m : Nat) (n : Int) : Bool := decide (0 ≤ n) && decide (n < 32) && m.testBit n.toNat
theorem bit_and (m : Nat) (k : Nat) (hm : m < 18446744073709551616) : bits .and .u64 ((m : Int) / 2 ^ k) 1 = if m.testBit k then 1 else 0 := by
  have e : (m : Int) / 2 ^ k = ((m / 2 ^ k : Nat) : Int) := by rw [Int.natCast_ediv, Int.natCast_pow]; rfl
  have hlt : m / 2 ^ k < 18446744073709551616 := Nat.lt_of_le_of_lt (Nat.div_le_self _ _) hm
  rw [e, show (1 : Int) = ((1 : Nat) : Int) from rfl, u64_and_nat _ 1 hlt (by omega)]
  rw [Nat.and_one_is_mod, Nat.testBit_eq_decide_div_mod_eq]
  by_cases h : m / 2 ^ k % 2 = 1
  · simp [h]
  · have : m / 2 ^ k % 2 = 0 := by omega
    simp [this]
set_option maxHeartbeats 400000 in
theorem vhas (m : Nat) (n : Int) (w : World) (hm : m < 18446744073709551616) :
    Calls Tryd.prog 15 #[.int .u64 (m : Int), .int .i64 n] w fun e w' => e = .returned (.bool (hasB m n)) ∧ w = w' := by
  have HB := Lib.hid (bit_and m n.toNat hm)
  clear hm
  by_cases h0 : 0 ≤ n
  · by_cases h1 : n < 32
    · have HH := Lib.hid (show hasB m n = m.testBit n.toNat by unfold hasB; simp [h0, h1])
      go_enter Tryd.func15, Tryd.ntmps15
      go_wp2
      go_ret
      refine ⟨retB ?_, rfl⟩
      rw [HH.out, HB.out]
      cases m.testBit n.toNat <;> rfl
    · have H := Lib.hid (show hasB m n = false by unfold hasB; simp; omega)
      go_enter Tryd.func15, Tryd.ntmps15
      go_wp2
      go_ret
      exact ⟨retB H.out.symm, rfl⟩
  · have H := Lib.hid (show hasB m n = false by unfold hasB; simp; omega)
    go_enter Tryd.func15, Tryd.ntmps15
    go_wp2
    go_ret
    exact ⟨retB H.out.symm, rfl⟩
set_option maxHeartbeats 400000 in
theorem rhas (m : Nat) (n : Int) (w : World) (hm : m < 18446744073709551616) :
    Calls Tryd.prog 16 #[.int .u64 (m : Int), .int .i64 n] w fun e w' => e = .returned (.bool (hasB m n)) ∧ w = w' := by
  have HB := Lib.hid (bit_and m n.toNat hm)
  clear hm
  by_cases h0 : 0 ≤ n
  · by_cases h1 : n < 32
    · have HH := Lib.hid (show hasB m n = m.testBit n.toNat by unfold hasB; simp [h0, h1])
      go_enter Tryd.func16, Tryd.ntmps16
      go_wp2
      go_ret
      refine ⟨retB ?_, rfl⟩
      rw [HH.out, HB.out]
      cases m.testBit n.toNat <;> rfl
    · have H := Lib.hid (show hasB m n = false by unfold hasB; simp; omega)
      go_enter Tryd.func16, Tryd.ntmps16
      go_wp2
      go_ret
      exact ⟨retB H.out.symm, rfl⟩
  · have H := Lib.hid (show hasB m n = false by unfold hasB; simp; omega)
    go_enter Tryd.func16, Tryd.ntmps16
    go_wp2
    go_ret
    exact ⟨retB H.out.symm, rfl⟩
def validB (m : Nat) : Bool := decide (m < 4294967296)
theorem high_bits (i : Nat) : (18446744069414584320 : Nat).testBit i = (decide (32 ≤ i) && decide (i < 64)) := by
  have e : (18446744069414584320 : Nat) = 2 ^ 32 * (2 ^ 32 - 1) := rfl
  rw [e, Nat.testBit_two_pow_mul, Nat.testBit_two_pow_sub_one]
  by_cases h : 32 ≤ i
  · simp [h]; omega
  · simp [h]
theorem valid_and (m : Nat) (hm : m < 18446744073709551616) : (bits .andNot .u64 (m : Int) 4294967295 == 0) = validB m := by
  rw [show (4294967295 : Int) = ((4294967295 : Nat) : Int) from rfl, u64_andNot_nat m 4294967295 hm (by omega)]
  unfold validB
  by_cases h : m < 4294967296
  · have : m &&& (18446744073709551615 - 4294967295) = 0 := by
      apply Nat.eq_of_testBit_eq
      intro i
      rw [Nat.testBit_and, show (18446744073709551615 - 4294967295 : Nat) = 18446744069414584320 from rfl, high_bits, Nat.zero_testBit]
      by_cases hi : 32 ≤ i
      · rw [Nat.testBit_lt_two_pow (Nat.lt_of_lt_of_le h (show 2 ^ 32 ≤ 2 ^ i from Nat.pow_le_pow_right (by omega) hi))]; rfl
      · simp; omega
    rw [this]; simp [h]
  · have hne : m &&& (18446744073709551615 - 4294967295) ≠ 0 := by
      intro h0
      obtain ⟨i, hi, hb⟩ := Nat.exists_ge_and_testBit_of_ge_two_pow (n := 32) (x := m) (by omega)
      have := congrArg (Nat.testBit · i) h0
      simp only [Nat.testBit_and, Nat.zero_testBit, hb] at this
      rw [show (18446744073709551615 - 4294967295 : Nat) = 18446744069414584320 from rfl, high_bits] at this
      have hi64 : i < 64 := by
        rcases Nat.lt_or_ge i 64 with k | k
        · exact k
        · rw [Nat.testBit_lt_two_pow (Nat.lt_of_lt_of_le hm (show 2 ^ 64 ≤ 2 ^ i from Nat.pow_le_pow_right (by omega) k))] at hb; cases hb
      simp at this; omega
    generalize m &&& (18446744073709551615 - 4294967295) = q at *
    simp [h, hne]
set_option maxHeartbeats 400000 in
theorem vvalid (m : Nat) (w : World) (hm : m < 18446744073709551616) :
    Calls Tryd.prog 13 #[.int .u64 (m : Int)] w fun e w' => e = .returned (.bool (validB m)) ∧ w = w' := by
  have HV := Lib.hid (valid_and m hm)
  clear hm
  go_enter Tryd.func13, Tryd.ntmps13
  go_wp2
  go_ret
  exact ⟨retB HV.out, rfl⟩
theorem valid_shr (m : Nat) : ((m : Int) / 4294967296 == 0) = validB m := by
  unfold validB
  by_cases h : m < 4294967296
  · simp [h]; omega
  · simp [h]; omega
set_option maxHeartbeats 400000 in
theorem rvalid (m : Nat) (w : World) :
    Calls Tryd.prog 14 #[.int .u64 (m : Int)] w fun e w' => e = .returned (.bool (validB m)) ∧ w = w' := by
  have HV := Lib.hid (valid_shr m)
  go_enter Tryd.func14, Tryd.ntmps14
  go_wp2
  go_ret
  exact ⟨retB HV.out, rfl⟩
end Go.Proofs.YtllomoplpoeggaaDoor

/- Decimal digits: plain facts. -/
import Derived.Test.YtnpaoepkpdileaaDoorNumber
namespace Go.Proofs.YtnpaoepkpdileaaDoor
/-- The number that decimal digits say. -/
def valD (l : List UInt8) : Nat := l.foldl (fun v c => 10 * v + (c.toNat - 48)) 0
theorem valD_snoc (l : List UInt8) (c : UInt8) : valD (l ++ [c]) = 10 * valD l + (c.toNat - 48) := by simp [valD, List.foldl_append]
def digB (c : UInt8) : Bool := decide (48 ≤ c.toNat) && decide (c.toNat ≤ 57)
theorem dig_nat (d : Nat) (h : d < 10) : (UInt8.ofNat (48 + d)).toNat = 48 + d := by rw [UInt8.toNat_ofNat']; omega
theorem dec_props (u : Nat) : valD (Lib.decDigits u) = u ∧ (Lib.decDigits u).all digB = true ∧ Lib.decDigits u ≠ [] := by
  induction u using Nat.strongRecOn with
  | _ u ih =>
    by_cases h : u < 10
    · rw [Lib.decDigits_one h]
      refine ⟨?_, ?_, by simp⟩
      · simp [valD]; omega
      · simp [digB]; omega
    · have := ih (u / 10) (by omega)
      rw [Lib.decDigits, dif_neg h]
      refine ⟨?_, ?_, by simp⟩
      · rw [valD_snoc, this.1, dig_nat _ (by omega)]; omega
      · rw [List.all_append, this.2.1]
        simp [digB]; omega
theorem dec_inj {u v : Nat} (h : Lib.decDigits u = Lib.decDigits v) : u = v := by rw [← (dec_props u).1, h, (dec_props v).1]
theorem dec_head (u : Nat) : ∃ c r, Lib.decDigits u = c :: r ∧ 48 ≤ c.toNat ∧ c.toNat ≤ 57 := by
  obtain ⟨_, h2, h3⟩ := dec_props u
  cases hl : Lib.decDigits u with
  | nil => exact absurd hl h3
  | cons c r =>
    rw [hl] at h2
    simp [digB] at h2
    exact ⟨c, r, rfl, h2.1.1, h2.1.2⟩
theorem itoa_inj {m n : Int} (h : Lib.itoa m = Lib.itoa n) : m = n := by
  unfold Lib.itoa at h
  split at h <;> split at h
  · injection h with _ h
    have := dec_inj h; omega
  · obtain ⟨c, r, e, h1, h2⟩ := dec_head n.toNat
    rw [e] at h; injection h with h _; rw [← h] at h1; simp at h1
  · obtain ⟨c, r, e, h1, h2⟩ := dec_head m.toNat
    rw [e] at h; injection h with h _; rw [h] at h1; simp at h1
  · have := dec_inj h; omega
theorem itoa_head (n : Int) : ∃ c r, Lib.itoa n = c :: r ∧ (c.toNat = 45 ∨ (48 ≤ c.toNat ∧ c.toNat ≤ 57)) := by
  unfold Lib.itoa; split
  · exact ⟨45, _, rfl, .inl rfl⟩
  · obtain ⟨c, r, e, h1, h2⟩ := dec_head n.toNat
    exact ⟨c, r, e, .inr ⟨h1, h2⟩⟩
theorem bytes_ext {a b : ByteArray} (h : a.data.toList = b.data.toList) : a = b := ByteArray.ext (Array.toList_inj.1 h)
end Go.Proofs.YtnpaoepkpdileaaDoor

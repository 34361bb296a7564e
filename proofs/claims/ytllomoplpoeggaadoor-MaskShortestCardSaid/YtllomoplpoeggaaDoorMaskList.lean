/- OnesCount64 and TrailingZeros64 of Go's library, as List of package mask uses them. -/
import Derived.Test.YtllomoplpoeggaaDoorMaskPlain
import Derived.Lib.TrailingZeros
namespace Go.Proofs.YtllomoplpoeggaaDoor
open Go.RowKit
theorem and127 (a : Int) : 0 ≤ bits .and .i64 a 127 ∧ bits .and .i64 a 127 ≤ 127 := by
  show 0 ≤ IntKind.i64.wrap ((BitVec.ofInt 64 a &&& BitVec.ofInt 64 127).toNat : Int) ∧ IntKind.i64.wrap ((BitVec.ofInt 64 a &&& BitVec.ofInt 64 127).toNat : Int) ≤ 127
  have h : (BitVec.ofInt 64 a &&& BitVec.ofInt 64 127).toNat ≤ 127 := by
    rw [BitVec.toNat_and]
    exact Nat.le_trans Nat.and_le_right (by decide)
  generalize (BitVec.ofInt 64 a &&& BitVec.ofInt 64 127).toNat = q at *
  rw [IntKind.wrap_i64]; omega
def CPost (w : World) (e : Ending) (w' : World) : Prop := ∃ n : Nat, e = .returned (.int .i64 (n : Int)) ∧ n ≤ 127 ∧ w = w'
theorem cpost (w : World) (a : Int) : CPost w (.returned (.int .i64 (bits .and .i64 a 127))) w := by
  have h := and127 a
  exact ⟨(bits .and .i64 a 127).toNat, by rw [Int.toNat_of_nonneg h.1], by omega, rfl⟩
attribute [local irreducible] bits
set_option maxRecDepth 100000 in
set_option maxHeartbeats 4000000 in
theorem onesCount (x : Int) (w : World) : Calls Tryd.prog 27 #[.int .u64 x] w (CPost w) := by
  go_enter Tryd.func27, Tryd.ntmps27
  go_wp2
  go_ret
  exact cpost w _
def dbL : List Int := [0, 1, 56, 2, 57, 49, 28, 3, 61, 58, 42, 50, 38, 29, 17, 4, 62, 47, 59, 36, 45, 43, 51, 22, 53, 39, 33, 30, 24, 18, 12, 5, 63, 55, 48, 27, 60, 41, 37, 16, 46, 35, 44, 21, 52, 32, 23, 11, 54, 26, 40, 15, 34, 20, 31, 10, 25, 14, 19, 9, 13, 8, 7, 6]
def dbV : Array Value := (dbL.map (Value.int .u8)).toArray
def Db (w : World) : Prop := Glob w 0 dbV
theorem Db.below {B : Nat} {w w' : World} (h : Db w) (hb : Below B w w') (hB : w.heap.size ≤ B) : Db w' := Glob.below h hb hB
theorem db_at : ∀ k : Fin 32, (2 ^ k.val * 285870213051353865 % 18446744073709551616 / 288230376151711744 < 64) ∧ dbL[2 ^ k.val * 285870213051353865 % 18446744073709551616 / 288230376151711744]? = some (k.val : Int) := by decide +kernel
theorem low_and (x : Nat) (h0 : x ≠ 0) (h : x < 4294967296) : bits .and .u64 (x : Int) (IntKind.u64.wrap (-(x : Int))) = ((2 ^ Lib.ctz 64 x : Nat) : Int) := by
  have hl := (Lib.lowest_bit 64 x h0 (by omega)).1
  have e : IntKind.u64.wrap (-(x : Int)) = ((2 ^ 64 - x : Nat) : Int) := by
    rw [IntKind.wrap_u64]; omega
  rw [e, u64_and_nat x _ (by omega) (by omega), hl]
theorem ctz_spec (x : Nat) (h0 : x ≠ 0) (h : x < 4294967296) : ∃ j, x = 2 ^ Lib.ctz 64 x * (2 * j + 1) ∧ Lib.ctz 64 x < 32 := by
  have e : Lib.ctz 64 x = Lib.ctzFrom 64 x := by unfold Lib.ctz; rw [if_neg h0]
  rw [e]
  obtain ⟨j, hj, _⟩ := Lib.ctzFrom_spec 64 x (by omega) (by omega)
  refine ⟨j, hj, ?_⟩
  rcases Nat.lt_or_ge (Lib.ctzFrom 64 x) 32 with hlt | hge
  · exact hlt
  · exfalso
    have h1 : 2 ^ 32 ≤ 2 ^ Lib.ctzFrom 64 x := Nat.pow_le_pow_right (by omega) hge
    have h2 : 2 ^ Lib.ctzFrom 64 x ≤ x := by
      conv => rhs; rw [hj]
      exact Nat.le_mul_of_pos_right _ (by omega)
    omega
set_option maxHeartbeats 400000 in
theorem trailing (x : Nat) (w : World) (h0 : x ≠ 0) (h : x < 4294967296) (hD : Db w) :
    Calls Tryd.prog 28 #[.int .u64 (x : Int)] w fun e w' => e = .returned (.int .i64 (Lib.ctz 64 x : Int)) ∧ w = w' := by
  obtain ⟨j, hj, hk⟩ := ctz_spec x h0 h
  have ha := low_and x h0 h
  have hb0 : ((x : Int) == 0) = false := by simp; omega
  have hx1 : 0 < (x : Int) := by omega
  generalize Lib.ctz 64 x = k at *
  have hdb := db_at ⟨k, hk⟩
  simp only at hdb
  have hw : IntKind.u64.wrap ((2 : Int) ^ k * 285870213051353865) = ((2 ^ k * 285870213051353865 % 18446744073709551616 : Nat) : Int) := by
    rw [IntKind.wrap_u64, Int.natCast_emod, Int.natCast_mul, Int.natCast_pow]; rfl
  generalize 2 ^ k * 285870213051353865 % 18446744073709551616 = p at *
  have hc : w.cell? ⟨0, p / 288230376151711744, none⟩ = some (.int .u8 (k : Int)) := by
    rw [Glob.cell hD]
    unfold dbV
    simp [hdb.2]
  have q0 : (0 : Int) ≤ (p : Int) / 288230376151711744 := by omega
  have q1 : (p : Int) / 288230376151711744 < 64 := by have := hdb.1; omega
  have ha' : bits .and .u64 (x : Int) (IntKind.u64.wrap (-(x : Int))) = (2 : Int) ^ k := by rw [ha, Int.natCast_pow]; rfl
  clear hj h0 h hD hdb ha
  go_enter Tryd.func28, Tryd.ntmps28
  go_wp2
  go_ret
  exact ⟨rfl, rfl⟩
theorem memF_congr (m m' a : Nat) (h : ∀ i, a ≤ i → hasN m i = hasN m' i) : memF m a = memF m' a := by
  unfold memF
  apply List.filter_congr
  intro x hx
  exact h x (List.mem_range'_1.1 hx).1
theorem memF_skip (m : Nat) : ∀ (d k : Nat), (∀ i, k ≤ i → i < k + d → hasN m i = false) → memF m k = memF m (k + d)
  | 0, k, _ => rfl
  | d + 1, k, h => by
    rw [memF_no m k (h k (Nat.le_refl _) (by omega)), memF_skip m d (k + 1) (fun i h1 h2 => h i (by omega) (by omega))]
    congr 1; omega
theorem bits_low (k j i : Nat) : (2 ^ k * (2 * j + 1)).testBit i = if i < k then false else (2 * j + 1).testBit (i - k) := by
  rw [Nat.testBit_two_pow_mul]
  by_cases h : i < k
  · simp [h]; omega
  · simp [h]; omega
theorem bits_pred (k j i : Nat) : (2 ^ k * (2 * j + 1) - 1).testBit i = if i < k then true else (2 * j).testBit (i - k) := by
  have hp : 0 < 2 ^ k := Nat.pow_pos (by omega)
  have e : 2 ^ k * (2 * j + 1) - 1 = 2 ^ k * (2 * j) + (2 ^ k - 1) := by rw [Nat.mul_add, Nat.mul_one]; omega
  rw [e, Nat.testBit_two_pow_mul_add _ (by omega)]
  by_cases h : i < k
  · simp [h, Nat.testBit_two_pow_sub_one]
  · simp [h]
theorem bits_next (k j i : Nat) : (2 ^ k * (2 * j + 1) &&& (2 ^ k * (2 * j + 1) - 1)).testBit i = if i ≤ k then false else (2 ^ k * (2 * j + 1)).testBit i := by
  rw [Nat.testBit_and, bits_low, bits_pred]
  by_cases h : i < k
  · simp [h]
  · by_cases h2 : i = k
    · subst h2; simp
    · rw [if_neg h, if_neg h, if_neg (by omega)]
      obtain ⟨d, hd⟩ : ∃ d, i - k = d + 1 := ⟨i - k - 1, by omega⟩
      rw [hd, Nat.testBit_succ, Nat.testBit_succ, show (2 * j + 1) / 2 = j by omega, show 2 * j / 2 = j by omega]; simp
/-- The least member, and the others. -/
theorem memF_next (r : Nat) (h0 : r ≠ 0) (h : r < 4294967296) : memF r 0 = Lib.ctz 64 r :: memF (r &&& (r - 1)) 0 := by
  obtain ⟨j, hj, hk⟩ := ctz_spec r h0 h
  generalize Lib.ctz 64 r = k at *
  have l1 : ∀ i, 0 ≤ i → i < 0 + k → hasN r i = false := fun i _ hi => by
    unfold hasN; rw [hj, bits_low, if_pos (by omega)]; simp
  have l2 : hasN r k = true := by
    unfold hasN; rw [hj, bits_low, if_neg (by omega)]; simp [hk]
  have l3 : ∀ i, 0 ≤ i → i < 0 + (k + 1) → hasN (r &&& (r - 1)) i = false := fun i _ hi => by
    unfold hasN; rw [hj, bits_next, if_pos (by omega)]; simp
  have l4 : memF r (k + 1) = memF (r &&& (r - 1)) (k + 1) := memF_congr _ _ _ fun i hi => by
    unfold hasN; rw [hj, bits_next, if_neg (by omega)]
  have e1 := memF_skip r k 0 l1
  have e2 := memF_skip (r &&& (r - 1)) (k + 1) 0 l3
  rw [Nat.zero_add] at e1 e2
  rw [e1, e2, memF_yes r k l2, l4]
theorem memF_mod (m : Nat) : memF (m % 4294967296) 0 = memF m 0 := memF_congr _ _ _ fun i _ => by
  unfold hasN
  rw [show (4294967296 : Nat) = 2 ^ 32 from rfl, Nat.testBit_mod_two_pow]
  by_cases h : i < 32 <;> simp [h]
end Go.Proofs.YtllomoplpoeggaaDoor

/- Atoi reads what Itoa writes: plain facts. -/
import Derived.Test.YtnpaoepkpdileaaDoorRReadN
import Derived.Lib.AtoiAllCases
namespace Go.Proofs.YtnpaoepkpdileaaDoor
def I64 (n : Int) : Prop := -9223372036854775808 ≤ n ∧ n ≤ 9223372036854775807
theorem parse_dig : ∀ (l : List UInt8) (acc : Nat), l.all digB = true → l.foldl (fun v c => 10 * v + (c.toNat - 48)) acc < 18446744073709551616 → Lib.parseUint10 acc l = .ok (l.foldl (fun v c => 10 * v + (c.toNat - 48)) acc)
  | [], acc, _, _ => rfl
  | c :: r, acc, hd, hv => by
    simp only [List.all_cons, Bool.and_eq_true] at hd
    have hc := hd.1
    unfold digB at hc
    simp at hc
    have mono : ∀ (r : List UInt8) (a : Nat), a ≤ r.foldl (fun v c => 10 * v + (c.toNat - 48)) a := by
      intro r
      induction r with
      | nil => intro a; exact Nat.le_refl _
      | cons x r ih => intro a; rw [List.foldl_cons]; exact Nat.le_trans (by omega) (ih _)
    have hm := mono r (10 * acc + (c.toNat - 48))
    rw [List.foldl_cons] at hv ⊢
    unfold Lib.parseUint10
    rw [if_pos hc, if_neg (by omega), if_neg (by omega), show acc * 10 + (c.toNat - 48) = 10 * acc + (c.toNat - 48) by omega]
    exact parse_dig r _ hd.2 hv
theorem atoi_itoa (m : Int) (h : I64 m) : Lib.atoiAll (Lib.itoa m) = .ok m := by
  unfold I64 at h
  unfold Lib.itoa
  split
  · rename_i hneg
    obtain ⟨p1, p2, p3⟩ := dec_props m.natAbs
    have hp : Lib.parseMag (Lib.decDigits m.natAbs) = .ok m.natAbs := by
      unfold Lib.parseMag
      rw [if_neg p3, parse_dig _ 0 p2 (by show valD _ < _; rw [p1]; omega)]
      exact congrArg _ p1
    unfold Lib.atoiAll
    simp only [show ((45 : UInt8).toNat = 45) from rfl, or_true, if_true, hp]
    simp
    rw [if_neg (by omega)]
    congr 1
    omega
  · rename_i hneg
    obtain ⟨p1, p2, p3⟩ := dec_props m.toNat
    obtain ⟨c', r', e, q1, q2⟩ := dec_head m.toNat
    have hp : Lib.parseMag (Lib.decDigits m.toNat) = .ok m.toNat := by
      unfold Lib.parseMag
      rw [if_neg p3, parse_dig _ 0 p2 (by show valD _ < _; rw [p1]; omega)]
      exact congrArg _ p1
    rw [e] at hp ⊢
    unfold Lib.atoiAll
    have n43 : (c'.toNat = 43) = False := by simp; omega
    have n45 : (c'.toNat = 45) = False := by simp; omega
    have hnn : (m.toNat : Int) = m := Int.toNat_of_nonneg (by omega)
    have hlt : ¬ (9223372036854775808 ≤ m.toNat) := by omega
    simp only [n43, n45, or_self, hp, hlt, and_false, false_and, if_false, not_false_eq_true, true_and, hnn]
theorem atoi_num {text : ByteArray} {m : Int} (h : I64 m) (e : numS m = text) : Lib.atoiAll text.data.toList = .ok m := by
  rw [← e, numS_list]; exact atoi_itoa m h
end Go.Proofs.YtnpaoepkpdileaaDoor

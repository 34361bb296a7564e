/- ReadNumber of the reference. -/
import Derived.Test.YtnpaoepkpdileaaDoorNumPlain
import Derived.IntWalk
namespace Go.Proofs.YtnpaoepkpdileaaDoor
open Go.RowKit
theorem numS_size (n : Int) (h0 : -9223372036854775808 ≤ n) (h1 : n ≤ 9223372036854775807) : (numS n).size ≤ 20 := by
  have e : (numS n).size = (Lib.itoa n).length := by show (Lib.itoa n).toArray.size = _; simp
  rw [e]; unfold Lib.itoa; split
  · have := dec_len n.natAbs (by omega)
    simp; omega
  · have := dec_len n.toNat (by omega)
    omega
theorem snoc_ind {α : Type} {p : List α → Prop} (h0 : p []) (h1 : ∀ l c, p l → p (l ++ [c])) (l : List α) : p l := by
  have H : ∀ r : List α, p r.reverse := by
    intro r
    induction r with
    | nil => simpa using h0
    | cons a r ih => rw [List.reverse_cons]; exact h1 _ _ ih
  simpa using H l.reverse
theorem w64_in {n : Int} (h0 : -9223372036854775808 ≤ n) (h1 : n ≤ 9223372036854775807) : wrap64 n = n := by unfold wrap64; omega
def rdStep (n : Int) (c : UInt8) : Int := if digB c then wrap64 (wrap64 (n * 10) - ((c.toNat : Int) - 48)) else n
def rdW (l : List UInt8) : Int := l.foldl rdStep 0
theorem rdW_snoc (l : List UInt8) (c : UInt8) : rdW (l ++ [c]) = rdStep (rdW l) c := by simp [rdW, List.foldl_append]
theorem i64_bd (n : Int) : -9223372036854775808 ≤ wrap64 n ∧ wrap64 n ≤ 9223372036854775807 := by unfold wrap64; omega
theorem rdStep_bd {n : Int} (c : UInt8) (h : -9223372036854775808 ≤ n ∧ n ≤ 9223372036854775807) : -9223372036854775808 ≤ rdStep n c ∧ rdStep n c ≤ 9223372036854775807 := by
  unfold rdStep; split
  · exact i64_bd _
  · exact h
theorem rdW_bd (l : List UInt8) : -9223372036854775808 ≤ rdW l ∧ rdW l ≤ 9223372036854775807 := by
  refine snoc_ind (p := fun l => -9223372036854775808 ≤ rdW l ∧ rdW l ≤ 9223372036854775807) (by simp [rdW]) (fun l c ih => ?_) l
  rw [rdW_snoc]; exact rdStep_bd c ih
theorem rdW_dig (l : List UInt8) : l.all digB = true → valD l ≤ 9223372036854775808 → rdW l = -(valD l : Int) := by
  refine snoc_ind (p := fun l => l.all digB = true → valD l ≤ 9223372036854775808 → rdW l = -(valD l : Int)) (fun _ _ => rfl) (fun l c ih hd hv => ?_) l
  · skip
    rw [List.all_append] at hd
    simp only [Bool.and_eq_true, List.all_cons, List.all_nil, Bool.and_true] at hd
    rw [valD_snoc] at hv
    have hc := hd.2
    unfold digB at hc
    simp at hc
    rw [rdW_snoc, ih hd.1 (by omega), valD_snoc, rdStep, if_pos hd.2]
    have e1 : wrap64 (-(valD l : Int) * 10) = -(valD l : Int) * 10 := w64_in (by omega) (by omega)
    rw [e1, w64_in (by omega) (by omega)]
    omega
theorem rdW_neg (l : List UInt8) : rdW (45 :: l) = rdW l := rfl
/-- What ReadNumber makes of a text. -/
def rdN (s : ByteArray) : Int :=
  if s.size = 0 then 0 else if 20 < s.size then 0 else if (s.data.toList.head?.map (·.toNat)) = some 45 then rdW s.data.toList else wrap64 (-(rdW s.data.toList))
theorem rdN_bd (s : ByteArray) : -9223372036854775808 ≤ rdN s ∧ rdN s ≤ 9223372036854775807 := by
  unfold rdN; split
  · omega
  · split
    · omega
    · split
      · exact rdW_bd _
      · exact i64_bd _
theorem numS_list (m : Int) : (numS m).data.toList = Lib.itoa m := by unfold numS; simp
theorem rdN_num (m : Int) (h0 : -9223372036854775808 ≤ m) (h1 : m ≤ 9223372036854775807) : rdN (numS m) = m := by
  have hz := numS_size m h0 h1
  have hl := numS_list m
  have hlen : (numS m).size = (Lib.itoa m).length := by rw [← hl, Array.length_toList]; rfl
  obtain ⟨c, r, hcr, _⟩ := itoa_head m
  have hp : (numS m).size ≠ 0 := by rw [hlen, hcr]; simp
  unfold rdN
  rw [if_neg hp, if_neg (by omega), hl]
  unfold Lib.itoa at *
  split
  · rename_i hneg
    obtain ⟨p1, p2, _⟩ := dec_props m.natAbs
    rw [if_pos (by simp), rdW_neg, rdW_dig _ p2 (by rw [p1]; omega), p1]
    omega
  · rename_i hneg
    obtain ⟨p1, p2, _⟩ := dec_props m.toNat
    obtain ⟨c', r', e, q1, q2⟩ := dec_head m.toNat
    rw [if_neg (by rw [e]; simp; omega), rdW_dig _ p2 (by rw [p1]; omega), p1, w64_in (by omega) (by omega)]
    omega
theorem numS_ext {s : ByteArray} {m : Int} (h : Lib.itoa m = s.data.toList) : numS m = s := bytes_ext (by rw [numS_list, h])
end Go.Proofs.YtnpaoepkpdileaaDoor

/- The text of a call: plain facts. -/
import Derived.Test.YtokkbboahajbhaaGreatDoorCallRChk
import Derived.Test.YtokkbboahajbhaaGreatDoorWords
import Derived.Test.YtokkbboahajbhaaGreatDoorQuote
import Derived.Test.YtokkbboahajbhaaGreatDoorNumber
namespace Go.Proofs.YtokkbboahajbhaaGreatDoor
open Go.RowKit
abbrev callO (z : Int) (a : Nat → Int) (P : Option Addr) (np cp : Nat) (A : Option Addr) (na ca : Nat) : Obj :=
  .cells #[.int .i64 z, .int .i64 (a 0), .int .i64 (a 1), .int .i64 (a 2), .int .i64 (a 3), .slice P np cp, .slice A na ca] 28
def numsW (m : Nat) (a : Nat → Int) : List ByteArray := (List.range m).map fun j => numS (a j)
theorem numsW_succ (m : Nat) (a : Nat → Int) : numsW (m + 1) a = numsW m a ++ [numS (a m)] := by simp [numsW, List.range_succ]
theorem numsW_len (m : Nat) (a : Nat → Int) : (numsW m a).length = m := by simp [numsW]
theorem numS_len (n : Int) (h0 : -9223372036854775808 ≤ n) (h1 : n ≤ 9223372036854775807) : (numS n).size ≤ 20 := by
  have e : (numS n).size = (Lib.itoa n).length := by show (Lib.itoa n).toArray.size = _; simp
  rw [e]; unfold Lib.itoa; split
  · have := dec_len n.natAbs (by omega)
    simp; omega
  · have := dec_len n.toNat (by omega)
    omega
theorem numsW_size {m : Nat} {a : Nat → Int} (h : ∀ j, j < m → -9223372036854775808 ≤ a j ∧ a j ≤ 9223372036854775807) : ∀ s ∈ numsW m a, s.size ≤ 20 := by
  intro s hs
  obtain ⟨j, hj, rfl⟩ := List.mem_map.1 hs
  have := h j (by simpa using hj)
  exact numS_len _ this.1 this.2
def callS (z : Int) (a : Nat → Int) (ps gs : List ByteArray) : ByteArray := if callE z a ps gs = 0 then catW (rowI z).name (numsW (rowI z).nums a ++ (ps ++ gs).map quoteS) else ⟨#[]⟩
theorem mem_size {ss : List ByteArray} {m : Nat} (h : longB ss m = false) : ∀ s ∈ ss, s.size ≤ m := by
  intro s hs
  obtain ⟨j, hj, rfl⟩ := List.getElem_of_mem hs
  exact long_inv h j hj
theorem callE_zero {z : Int} {a : Nat → Int} {ps gs : List ByteArray} (h : callE z a ps gs = 0) : (0 ≤ z ∧ z < 22) ∧ zeroB (rowI z).nums a = true ∧ ps.length = (rowI z).pths ∧ ((rowI z).least ≤ gs.length ∧ gs.length ≤ (rowI z).most) ∧ (∀ s ∈ ps, s.size ≤ 128) ∧ ∀ s ∈ gs, s.size ≤ 64 := by
  unfold callE at h
  split at h
  · cases h
  · rename_i h0
    split at h
    · cases h
    · rename_i h1
      split at h
      · cases h
      · rename_i h2
        split at h
        · cases h
        · rename_i h3
          have hz : ¬ (z < 0 ∨ 22 ≤ z) := fun hz => h0 (by rw [rowI_name_out hz]; rfl)
          simp only [not_or, Bool.not_eq_true] at h3
          exact ⟨by omega, by simpa using h1, by omega, by omega, mem_size h3.1, mem_size h3.2⟩
theorem rowI_toNat {z : Int} (h : 0 ≤ z ∧ z < 22) : rowI z = rowC z.toNat := by
  obtain ⟨n, rfl⟩ := Int.eq_ofNat_of_zero_le h.1
  rw [rowI_nat]; rfl
theorem slice_to (g m : Nat) (hm : m ≤ 2) (w : World) : (Instr.sliceAt 25 (.pointer (some ⟨g, 1, none⟩)) none (some (.int .i64 (m : Int))) none).run Tryz.prog w = .ok (.slice (some ⟨g, 1, none⟩) m 4) w := by
  match m, hm with
  | 0, _ => show _ = _; kernel_rfl
  | 1, _ => show _ = _; kernel_rfl
  | 2, _ => show _ = _; kernel_rfl
theorem box_then {w wr w1 : World} {o : Obj} (h : Below (w.heap.size + 1) (w.alloc o) wr) (k : Below wr.heap.size wr w1) : Below (w.heap.size + 1) (w.alloc o) w1 :=
  h.trans (k.mono (by have := h.size; simp at this; omega))
theorem take_map_snoc (ss : List ByteArray) (k : Nat) (h : k < ss.length) : (ss.take (k + 1)).map quoteS = (ss.take k).map quoteS ++ [quoteS ss[k]] := by
  rw [List.take_succ_eq_append_getElem h, List.map_append]; rfl
theorem take_map_len (ss : List ByteArray) (k : Nat) (h : k ≤ ss.length) : ((ss.take k).map quoteS).length = k := by simp; omega
theorem quoteE_none {s : ByteArray} (h : s.size ≤ 640) : quoteE s = 0 := by unfold quoteE; rw [if_neg (by omega)]
theorem quoteS_le (t : ByteArray) (h : t.size ≤ 640) : (quoteS t).size ≤ 2 * t.size + 2 := by
  have e : (quoteS t).size = (quoteL t.data.toList).length := by
    unfold quoteS; rw [if_neg (by omega)]; show (quoteL t.data.toList).toArray.size = _; simp
  have e2 : t.data.toList.length = t.size := Array.length_toList
  rw [e, ← e2]
  unfold quoteL; split
  · simp; omega
  · simp [hexL_length]
end Go.Proofs.YtokkbboahajbhaaGreatDoor

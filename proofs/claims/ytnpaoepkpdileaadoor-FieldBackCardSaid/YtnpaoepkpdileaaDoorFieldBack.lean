/- The walk of the law FieldBack. -/
import Derived.Test.YtnpaoepkpdileaaDoorFieldVParse
import Derived.Test.YtnpaoepkpdileaaDoorSrcTest
import Derived.Test.YtnpaoepkpdileaaDoorFieldAwake
import Derived.Laws.StructEq
namespace Go.Proofs.YtnpaoepkpdileaaDoor
open Go.RowKit
theorem testS_le (fd op nu : Int) (tx : ByteArray) (ot : Int) (hx : tx.size ≤ 640) (hi : I64 nu) : (testS fd op nu tx ot).size ≤ 2000 := by
  unfold testS
  split
  · have h1 := field_len fd.toNat
    have h2 := op_len op.toNat
    have h3 : (valS fd nu tx ot).size ≤ 1300 := by
      unfold valS
      split
      · have := field_len ot.toNat; omega
      · split
        · exact quoteS_leF tx hx
        · have := numS_lenF nu hi.1 hi.2; omega
    rw [ByteArray.size_append, ByteArray.size_append]; omega
  · show 0 ≤ 2000; omega
theorem tis_self {fd op nu : Int} {tx : ByteArray} {ot : Int} (h : anyE fd op nu tx ot = 0) (hi : I64 nu) : TIs (testS fd op nu tx ot) fd op nu tx ot 0 := .inl ⟨rfl, h, rfl, hi⟩
theorem testS_none {fd op nu : Int} {tx : ByteArray} {ot : Int} (h : anyE fd op nu tx ot ≠ 0) : testS fd op nu tx ot = ⟨#[]⟩ := by unfold testS; rw [if_neg h]
attribute [local irreducible] textB numF numS unqS unqE checkF anyE testS fieldN opN opAt cellsN cellsO
set_option maxRecDepth 100000 in
set_option maxHeartbeats 4000000 in
theorem fieldBack_walk (w : World) (A : Option Addr) (n c : Nat) (hn : (n : Int) ≤ 9223372036854775807)
    (hl : ∀ k, k < n → ∃ (ad : Addr) (z : Int), A = some ad ∧ ad.block < w.heap.size ∧ w.cell? (ad.add k) = some (.int .i64 z) ∧ -9223372036854775808 ≤ z ∧ z ≤ 9223372036854775807) (hfn : FNames w) (hfo : FOps w) (he : Env w) :
    Calls Tryd.prog 9 #[.slice A n c] w fun e w' => e = .returned (.bool true) ∧ Below w.heap.size w w' := by
  have HL := Lib.hid hl
  have HN := Lib.hid hn
  have HFN := Lib.hid (fun (W : World) (h : Below w.heap.size w W) => hfn.below h)
  have HFO := Lib.hid (fun (W : World) (h : Below w.heap.size w W) => hfo.below h)
  have HE := Lib.hid (fun (W : World) (h : Below w.heap.size w W) => he.below h)
  have HAW := Lib.hid (fun (W : World) (h : Below w.heap.size w W) => awake12 W (hfn.below h) (hfo.below h) (he.below h).tab (he.below h).pow)
  clear hl hn hfn hfo he
  go_enter Tryd.func9, Tryd.ntmps9
  go_wp2_with fail
  refine (src_new _ A n c HN.out HL.out).mono ?_
  rintro e w1 ⟨rfl, hs1, hb1⟩
  have HS1 := Lib.hid hs1
  clear hs1
  go_wp2_with fail
  refine (src_range _ w.heap.size w.heap.size 0 1 5 HS1.out (by omega) (by omega) (by omega) (by omega)).mono ?_
  rintro e w2 ⟨l, rfl, hl1, hl5, hs2, hg2⟩
  have HS2 := Lib.hid hs2
  have hb2 := below_only hb1 hg2 hb1.size (Nat.le_refl _)
  clear hs2 hg2 hb1
  go_wp2_with fail
  refine (src_test _ w.heap.size w.heap.size _ l HS2.out (by omega)).mono ?_
  rintro e w3 ⟨fd, op, nu, tx, ot, rfl, hnu, htx, hs3, hg3⟩
  have hb3 := below_only hb2 hg3 hb2.size (Nat.le_refl _)
  have hi : I64 nu := ⟨by omega, by omega⟩
  have HI := Lib.hid hi
  have hx6 : tx.size ≤ 640 := by omega
  have hxm : tx.size ≤ maxLen := by unfold maxLen; omega
  have HG0 := Blk.new w3 (testC 0 0 0 ⟨#[]⟩ 0) 23
  have HB4 : Below w.heap.size w ((w3.alloc (.cells (testC 0 0 0 ⟨#[]⟩ 0) 23)).setRow w3.heap.size (testC fd op nu tx ot)) := below_row (hb3.alloc hb3.size _) hb3.size _
  have HG1 := Lib.hid (HG0.row (testC fd op nu tx ot))
  have HS := Lib.hid (testS_le fd op nu tx ot hx6 hi)
  clear hs3 hg3 hb2 hb3 hi hnu htx HS1 HS2
  obtain ⟨p0, p1, p2, p3, p4⟩ := test_cells HG1.out
  go_wp2_with ((with_reducible refine store_blk ?_ 23 (.tmp 4) (.tmp 14) ?_ HG0 (testC fd op nu tx ot) ?_ ?_ ?_ ?_ ?_ ?_); (iterate 4 rfl); (exact test_sz _ _ _ _ _); rfl; (exact test_one _ _ _ _ _))
  refine (vformatF fd op nu tx ot HI.out hxm _ (HFN.out _ HB4) (HFO.out _ HB4) (HE.out _ HB4).tab (HE.out _ HB4).pow).mono ?_
  rintro e w5 ⟨rfl, hb5⟩
  have HG5 := Lib.hid (HG1.out.below hb5)
  have HB5 := Lib.hid (below_then HB4 hb5)
  clear p0 p1 p2 p3 p4 HG0 HB4 HG1 hb5
  by_cases h0 : anyE fd op nu tx ot = 0
  · have HT := Lib.hid (tis_self h0 HI.out)
    rw [h0]
    clear h0
    generalize testS fd op nu tx ot = q at *
    have hq : q.size ≤ 1000000 := by have := HS.out; omega
    go_wp2_with fail
    refine (vparseF q hq _ (HFN.out _ HB5.out) (HFO.out _ HB5.out) (HE.out _ HB5.out)).mono ?_
    rintro e w6 ⟨fd2, op2, nu2, tx2, ot2, er, rfl, hT2, hx2, hi2, hb6⟩
    obtain ⟨e0, e1, e2, e3, e4, e5⟩ := hT2.unique HT.out
    subst e0 e1 e2 e3 e4 e5
    have HG6 := HG5.out.below hb6
    have HB6 := below_then HB5.out hb6
    have HH0 := Blk.new w6 (testC 0 0 0 ⟨#[]⟩ 0) 23
    have HG7 := (HG6.alloc (.cells (testC 0 0 0 ⟨#[]⟩ 0) 23)).row_other (testC fd2 op2 nu2 tx2 ot2) (show w3.heap.size ≠ w6.heap.size by have := HG6.lt; omega)
    have HH1 := HH0.row (testC fd2 op2 nu2 tx2 ot2)
    have HB7 : Below w.heap.size w ((w6.alloc (.cells (testC 0 0 0 ⟨#[]⟩ 0) 23)).setRow w6.heap.size (testC fd2 op2 nu2 tx2 ot2)) := below_row (HB6.alloc HB6.size _) HB6.size _
    obtain ⟨p0, p1, p2, p3, p4⟩ := test_cells HG7
    obtain ⟨r0, r1, r2, r3, r4⟩ := test_cells HH1
    have HB7' := Lib.hid HB7
    clear hT2 hx2 hi2 hb6 HG6 HB6 HG7 HH1 HT HB7
    go_wp2_with ((with_reducible refine store_blk ?_ 23 (.tmp 7) (.tmp 30) ?_ HH0 (testC fd2 op2 nu2 tx2 ot2) ?_ ?_ ?_ ?_ ?_ ?_); (iterate 4 rfl); (exact test_sz _ _ _ _ _); rfl; (exact test_one _ _ _ _ _))
    refine (HAW.out _ HB7'.out).mono ?_
    rintro e w8 ⟨rfl, hb8⟩
    go_wp2_with fail
    go_ret
    exact ⟨rfl, below_then HB7'.out hb8⟩
  · have HZ := Lib.hid (testS_none h0)
    have b0 : (anyE fd op nu tx ot != 0) = true := by simpa using h0
    rw [HZ.out]
    clear h0
    go_wp2_with fail
    refine (HAW.out _ HB5.out).mono ?_
    rintro e w8 ⟨rfl, hb8⟩
    go_wp2_with fail
    go_ret
    exact ⟨rfl, below_then HB5.out hb8⟩
end Go.Proofs.YtnpaoepkpdileaaDoor

/- get, Name, Shape of the reference. -/
import Derived.Test.YtnpaoepkpdileaaDoorCallGet
import Derived.Test.YtnpaoepkpdileaaDoorBlk
namespace Go.Proofs.YtnpaoepkpdileaaDoor
open Go.RowKit
attribute [local irreducible] rowC cellsC
theorem row_size : (Tryd.prog.info? 109).map (·.size) = some 5 := by kernel_rfl
theorem rget_ret (w : World) (g : Nat) (t : TypeId) (cs : Array Value) (tmps : Array Value) (hp : tmps.getD 2 undef = .pointer (some ⟨g, 0, none⟩)) (h : Blk w g t cs) (h5 : cs.size = 5) :
    (results Tryd.f80 tmps).run Tryd.prog w = .ok (.agg cs) w :=
  results_cell_row (p := 2) (ty := 109) rfl tmps w g t cs (0, 0) _ hp h Tryd.underlying109 rfl (by rw [h5]; exact row_size)
set_option maxHeartbeats 1000000 in
theorem rget_neg (z : Int) (hz : z < 0) (w : World) : Calls Tryd.prog 80 #[.int .i64 z] w fun e w' => e = .returned (CRow.val .i64 ⟨⟨#[]⟩, 0, 0, 0, 0⟩) ∧ Below w.heap.size w w' := by
  go_enter Tryd.func80, Tryd.ntmps80
  go_wp2_with fail
  refine bodyPost_ret (v := CRow.val .i64 ⟨⟨#[]⟩, 0, 0, 0, 0⟩) ?_ rfl ?_
  · simp [results, Tryd.results80, go_sem, CRow.val]
  · exact ⟨rfl, (Below.refl _ _).alloc (Nat.le_refl _) _⟩
set_option maxHeartbeats 1000000 in
theorem rget_great (z : Int) (hz : 22 ≤ z) (w : World) : Calls Tryd.prog 80 #[.int .i64 z] w fun e w' => e = .returned (CRow.val .i64 ⟨⟨#[]⟩, 0, 0, 0, 0⟩) ∧ Below w.heap.size w w' := by
  go_enter Tryd.func80, Tryd.ntmps80
  go_wp2_with fail
  refine (rcount _).mono ?_
  rintro e w1 ⟨rfl, hb⟩
  have HG : Blk w1 w.heap.size 109 _ := (Blk.new w _ _).keep (boxed hb) (by omega)
  have q0 := HG.cell 0
  have f0 := HG.free 0
  have q1 := HG.cell 1
  have f1 := HG.free 1
  have q2 := HG.cell 2
  have f2 := HG.free 2
  have q3 := HG.cell 3
  have f3 := HG.free 3
  have q4 := HG.cell 4
  have f4 := HG.free 4
  go_wp2_with fail
  refine bodyPost_ret (rget_ret _ _ _ _ _ rfl (((((HG.put 0 _).put 1 _).put 2 _).put 3 _).put 4 _) rfl) rfl ?_
  exact ⟨rfl, (((((unbox' hb).setCell (Nat.le_refl _) _).setCell (Nat.le_refl _) _).setCell (Nat.le_refl _) _).setCell (Nat.le_refl _) _).setCell (Nat.le_refl _) _⟩
set_option maxHeartbeats 1000000 in
theorem rget_at (n : Nat) (hn : n < 22) (w : World) : Calls Tryd.prog 80 #[.int .i64 (n : Int)] w fun e w' => e = .returned (CRow.val .i64 (rowC n)) ∧ Below w.heap.size w w' := by
  obtain ⟨k0, k1, k2, k3, k4⟩ := cellsC_at .i64 n hn
  go_enter Tryd.func80, Tryd.ntmps80
  go_wp2_with fail
  refine (rcount _).mono ?_
  rintro e w1 ⟨rfl, hb⟩
  have HH := Lib.hid (show Blk w1 w.heap.size 109 _ from (Blk.new w _ _).keep (boxed hb) (by omega))
  have HB := Lib.hid (unbox' hb)
  clear hb
  go_wp2_with fail
  refine (rtable _).mono ?_
  rintro e w2 ⟨rfl, hg, hb2⟩
  have HG := HH.out.below hb2
  have HB2 := Lib.hid (HB.out.trans (hb2.mono HB.out.size))
  have c0 := (hg.cell (n * 5)).trans k0
  have c1 := (hg.cell (n * 5 + 1)).trans k1
  have c2 := (hg.cell (n * 5 + 2)).trans k2
  have c3 := (hg.cell (n * 5 + 3)).trans k3
  have c4 := (hg.cell (n * 5 + 4)).trans k4
  have q0 := HG.cell 0
  have f0 := HG.free 0
  have q1 := HG.cell 1
  have f1 := HG.free 1
  have q2 := HG.cell 2
  have f2 := HG.free 2
  have q3 := HG.cell 3
  have f3 := HG.free 3
  have q4 := HG.cell 4
  have f4 := HG.free 4
  clear hg k0 k1 k2 k3 k4 HH HB hb2
  have HR := Lib.hid (show CRow.val .i64 (rowC n) = .agg #[.string (rowC n).name, .int .i64 (rowC n).nums, .int .i64 (rowC n).pths, .int .i64 (rowC n).least, .int .i64 (rowC n).most] from rfl)
  go_wp2_with fail
  refine bodyPost_ret (rget_ret _ _ _ _ _ rfl (((((HG.put 0 _).put 1 _).put 2 _).put 3 _).put 4 _) rfl) rfl ?_
  exact ⟨by rw [HR.out]; rfl, (((((HB2.out).setCell (Nat.le_refl _) _).setCell (Nat.le_refl _) _).setCell (Nat.le_refl _) _).setCell (Nat.le_refl _) _).setCell (Nat.le_refl _) _⟩
theorem rowI_neg {z : Int} (h : z < 0) : rowI z = ⟨⟨#[]⟩, 0, 0, 0, 0⟩ := if_pos h
theorem rowI_great {z : Int} (h : 22 ≤ z) : rowI z = ⟨⟨#[]⟩, 0, 0, 0, 0⟩ := by
  unfold rowI
  rw [if_neg (by omega)]
  unfold rowC
  rw [List.getD_eq_getElem?_getD, List.getElem?_eq_none (by show rowsC.length ≤ _; have : rowsC.length = 22 := rfl; omega)]
  rfl
theorem rowI_nat (n : Nat) : rowI (n : Int) = rowC n := by unfold rowI; rw [if_neg (by omega), Int.toNat_natCast]
theorem rget (z : Int) (w : World) : Calls Tryd.prog 80 #[.int .i64 z] w fun e w' => e = .returned (CRow.val .i64 (rowI z)) ∧ Below w.heap.size w w' := by
  by_cases h0 : z < 0
  · rw [rowI_neg h0]; exact rget_neg z h0 w
  · by_cases h1 : 22 ≤ z
    · rw [rowI_great h1]; exact rget_great z h1 w
    · obtain ⟨n, rfl⟩ := Int.eq_ofNat_of_zero_le (show 0 ≤ z by omega)
      rw [rowI_nat]
      exact rget_at n (by omega) w
theorem rshape (z : Int) (w : World) : Calls Tryd.prog 60 #[.int .i64 z] w fun e w' => e = .returned (.tuple #[.int .i64 (rowI z).nums, .int .i64 (rowI z).pths, .int .i64 (rowI z).least, .int .i64 (rowI z).most]) ∧ Below w.heap.size w w' := by
  have HG := Lib.hid (rget z)
  generalize rowI z = r at *
  obtain ⟨nm, a, b, c, d⟩ := r
  go_enter Tryd.func60, Tryd.ntmps60
  go_wp2_with fail
  refine (HG.out _).mono ?_
  rintro e w1 ⟨rfl, hb⟩
  unfold CRow.val
  go_wp2_with fail
  go_quiet (fail)
  go_wp2_with fail
  refine bodyPost_ret (results_four rfl _ _ _) rfl ?_
  exact ⟨rfl, below_drewN (hb.alloc hb.size _) _⟩
end Go.Proofs.YtnpaoepkpdileaaDoor

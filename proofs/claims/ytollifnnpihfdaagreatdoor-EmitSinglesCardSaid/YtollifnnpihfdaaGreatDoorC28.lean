/- Texts of one proof, laid together. -/
import Derived.Test.YtollifnnpihfdaaGreatDoorC27
import Derived.Test.YtollifnnpihfdaaGreatDoorC01
/- get, Name, Shape of the reference. -/
namespace Go.Proofs.YtollifnnpihfdaaGreatDoor
open Go.RowKit
attribute [local irreducible] rowC cellsC
theorem row_size : (Tryz.prog.info? 147).map (·.size) = some 5 := by kernel_rfl
theorem rget_ret (w : World) (g : Nat) (t : TypeId) (cs : Array Value) (tmps : Array Value) (hp : tmps.getD 2 undef = .pointer (some ⟨g, 0, none⟩)) (h : Blk w g t cs) (h5 : cs.size = 5) :
    (results Tryz.f63 tmps).run Tryz.prog w = .ok (.agg cs) w :=
  results_cell_row (p := 2) (ty := 147) rfl tmps w g t cs (0, 0) _ hp h Tryz.underlying147 rfl (by rw [h5]; exact row_size)
set_option maxHeartbeats 1000000 in
theorem rget_neg (z : Int) (hz : z < 0) (w : World) : Calls Tryz.prog 63 #[.int .i64 z] w fun e w' => e = .returned (CRow.val .i64 ⟨⟨#[]⟩, 0, 0, 0, 0⟩) ∧ Below w.heap.size w w' := by
  go_enter Tryz.func63, Tryz.ntmps63
  go_wp2_with fail
  refine bodyPost_ret (v := CRow.val .i64 ⟨⟨#[]⟩, 0, 0, 0, 0⟩) ?_ rfl ?_
  · simp [results, Tryz.results63, go_sem, CRow.val]
  · exact ⟨rfl, (Below.refl _ _).alloc (Nat.le_refl _) _⟩
set_option maxHeartbeats 1000000 in
theorem rget_great (z : Int) (hz : 22 ≤ z) (w : World) : Calls Tryz.prog 63 #[.int .i64 z] w fun e w' => e = .returned (CRow.val .i64 ⟨⟨#[]⟩, 0, 0, 0, 0⟩) ∧ Below w.heap.size w w' := by
  go_enter Tryz.func63, Tryz.ntmps63
  go_wp2_with fail
  refine (rcount _).mono ?_
  rintro e w1 ⟨rfl, hb⟩
  have HG : Blk w1 w.heap.size 147 _ := (Blk.new w _ _).keep (boxed hb) (by omega)
  have q0 := HG.cell 0
  have f0 := HG.free 0
  have q1 := HG.cell 1
  have f1 := HG.free 1
  have q2 := HG.cell 2
  have f2 := HG.free 2
  have q3 := HG.cell 3
  have f3 := HG.free 3
  have q4 := HG.cell 4
  have f4 := HG.free 4
  go_wp2_with fail
  refine bodyPost_ret (rget_ret _ _ _ _ _ rfl (((((HG.put 0 _).put 1 _).put 2 _).put 3 _).put 4 _) rfl) rfl ?_
  exact ⟨rfl, (((((unbox' hb).setCell (Nat.le_refl _) _).setCell (Nat.le_refl _) _).setCell (Nat.le_refl _) _).setCell (Nat.le_refl _) _).setCell (Nat.le_refl _) _⟩
set_option maxHeartbeats 1000000 in
theorem rget_at (n : Nat) (hn : n < 22) (w : World) : Calls Tryz.prog 63 #[.int .i64 (n : Int)] w fun e w' => e = .returned (CRow.val .i64 (rowC n)) ∧ Below w.heap.size w w' := by
  obtain ⟨k0, k1, k2, k3, k4⟩ := cellsC_at .i64 n hn
  go_enter Tryz.func63, Tryz.ntmps63
  go_wp2_with fail
  refine (rcount _).mono ?_
  rintro e w1 ⟨rfl, hb⟩
  have HH := Lib.hid (show Blk w1 w.heap.size 147 _ from (Blk.new w _ _).keep (boxed hb) (by omega))
  have HB := Lib.hid (unbox' hb)
  clear hb
  go_wp2_with fail
  refine (rtable _).mono ?_
  rintro e w2 ⟨rfl, hg, hb2⟩
  have HG := HH.out.below hb2
  have HB2 := Lib.hid (HB.out.trans (hb2.mono HB.out.size))
  have c0 := (hg.cell (n * 5)).trans k0
  have c1 := (hg.cell (n * 5 + 1)).trans k1
  have c2 := (hg.cell (n * 5 + 2)).trans k2
  have c3 := (hg.cell (n * 5 + 3)).trans k3
  have c4 := (hg.cell (n * 5 + 4)).trans k4
  have q0 := HG.cell 0
  have f0 := HG.free 0
  have q1 := HG.cell 1
  have f1 := HG.free 1
  have q2 := HG.cell 2
  have f2 := HG.free 2
  have q3 := HG.cell 3
  have f3 := HG.free 3
  have q4 := HG.cell 4
  have f4 := HG.free 4
  clear hg k0 k1 k2 k3 k4 HH HB hb2
  have HR := Lib.hid (show CRow.val .i64 (rowC n) = .agg #[.string (rowC n).name, .int .i64 (rowC n).nums, .int .i64 (rowC n).pths, .int .i64 (rowC n).least, .int .i64 (rowC n).most] from rfl)
  go_wp2_with fail
  refine bodyPost_ret (rget_ret _ _ _ _ _ rfl (((((HG.put 0 _).put 1 _).put 2 _).put 3 _).put 4 _) rfl) rfl ?_
  exact ⟨by rw [HR.out]; rfl, (((((HB2.out).setCell (Nat.le_refl _) _).setCell (Nat.le_refl _) _).setCell (Nat.le_refl _) _).setCell (Nat.le_refl _) _).setCell (Nat.le_refl _) _⟩
theorem rowI_neg {z : Int} (h : z < 0) : rowI z = ⟨⟨#[]⟩, 0, 0, 0, 0⟩ := if_pos h
theorem rowI_great {z : Int} (h : 22 ≤ z) : rowI z = ⟨⟨#[]⟩, 0, 0, 0, 0⟩ := by
  unfold rowI
  rw [if_neg (by omega)]
  unfold rowC
  rw [List.getD_eq_getElem?_getD, List.getElem?_eq_none (by show rowsC.length ≤ _; have : rowsC.length = 22 := rfl; omega)]
  rfl
theorem rowI_nat (n : Nat) : rowI (n : Int) = rowC n := by unfold rowI; rw [if_neg (by omega), Int.toNat_natCast]
theorem rget (z : Int) (w : World) : Calls Tryz.prog 63 #[.int .i64 z] w fun e w' => e = .returned (CRow.val .i64 (rowI z)) ∧ Below w.heap.size w w' := by
  by_cases h0 : z < 0
  · rw [rowI_neg h0]; exact rget_neg z h0 w
  · by_cases h1 : 22 ≤ z
    · rw [rowI_great h1]; exact rget_great z h1 w
    · obtain ⟨n, rfl⟩ := Int.eq_ofNat_of_zero_le (show 0 ≤ z by omega)
      rw [rowI_nat]
      exact rget_at n (by omega) w
set_option maxRecDepth 100000 in
theorem rname (z : Int) (w : World) : Calls Tryz.prog 24 #[.int .i64 z] w fun e w' => e = .returned (.string (rowI z).name) ∧ Below w.heap.size w w' := by
  have HG := Lib.hid (rget z)
  generalize rowI z = r at *
  obtain ⟨nm, a, b, c, d⟩ := r
  go_enter Tryz.func24, Tryz.ntmps24
  go_wp2_with fail
  refine (HG.out _).mono ?_
  rintro e w1 ⟨rfl, hb⟩
  unfold CRow.val
  have hf : ∀ w, (Instr.field 147 (.agg #[.string nm, .int .i64 a, .int .i64 b, .int .i64 c, .int .i64 d]) 0).run Tryz.prog w = .ok (.string nm) w := fun _ => by kernel_rfl
  go_wp2_with fail
  go_ret
  exact ⟨rfl, hb⟩
theorem rshape (z : Int) (w : World) : Calls Tryz.prog 87 #[.int .i64 z] w fun e w' => e = .returned (.tuple #[.int .i64 (rowI z).nums, .int .i64 (rowI z).pths, .int .i64 (rowI z).least, .int .i64 (rowI z).most]) ∧ Below w.heap.size w w' := by
  have HG := Lib.hid (rget z)
  generalize rowI z = r at *
  obtain ⟨nm, a, b, c, d⟩ := r
  go_enter Tryz.func87, Tryz.ntmps87
  go_wp2_with fail
  refine (HG.out _).mono ?_
  rintro e w1 ⟨rfl, hb⟩
  unfold CRow.val
  go_wp2_with fail
  go_quiet (fail)
  go_wp2_with fail
  refine bodyPost_ret (results_four rfl _ _ _) rfl ?_
  exact ⟨rfl, below_drewN (hb.alloc hb.size _) _⟩
end Go.Proofs.YtollifnnpihfdaaGreatDoor
/- Number, of the program and of the reference; Name and Shape for every number. -/
namespace Go.Proofs.YtollifnnpihfdaaGreatDoor
open Go.RowKit
/-- The number of a name, or -1. -/
def numC (s : ByteArray) : Int := match (List.range 22).find? (fun n => (rowC n).name.toList == s.toList) with | some n => (n : Int) | none => -1
theorem numC_at {s : ByteArray} {k : Nat} (hk : k < 22) (h : ∀ j, j < k → (rowC j).name ≠ s) (he : (rowC k).name = s) : numC s = k := by
  have : (List.range 22).find? (fun n => (rowC n).name.toList == s.toList) = some k := by
    rw [List.find?_range_eq_some]
    refine ⟨str_eq he, by simpa using hk, fun j hj => ?_⟩
    simp [str_ne (h j hj)]
  unfold numC; rw [this]
theorem numC_none {s : ByteArray} (h : ∀ j, j < 22 → (rowC j).name ≠ s) : numC s = -1 := by
  have : (List.range 22).find? (fun n => (rowC n).name.toList == s.toList) = none := by
    rw [List.find?_range_eq_none]
    intro j hj
    simp [str_ne (h j hj)]
  unfold numC; rw [this]
theorem idx_at (k : Nat) (hk : k < 22) (w : World) : (Instr.index 238 (.agg (cellsC .u8)) (.int .i64 (k : Int))).run Tryz.prog w = .ok (.agg #[.string (rowC k).name, .int .u8 (rowC k).nums, .int .u8 (rowC k).pths, .int .u8 (rowC k).least, .int .u8 (rowC k).most]) w := by
  have H : ∀ m : Fin 22, (Instr.index 238 (.agg (cellsC .u8)) (.int .i64 (m.val : Int))).run Tryz.prog w = .ok (.agg #[.string (rowC m).name, .int .u8 (rowC m).nums, .int .u8 (rowC m).pths, .int .u8 (rowC m).least, .int .u8 (rowC m).most]) w := by
    intro m
    match m with
    | ⟨0, _⟩ => show _ = _; kernel_rfl
    | ⟨1, _⟩ => show _ = _; kernel_rfl
    | ⟨2, _⟩ => show _ = _; kernel_rfl
    | ⟨3, _⟩ => show _ = _; kernel_rfl
    | ⟨4, _⟩ => show _ = _; kernel_rfl
    | ⟨5, _⟩ => show _ = _; kernel_rfl
    | ⟨6, _⟩ => show _ = _; kernel_rfl
    | ⟨7, _⟩ => show _ = _; kernel_rfl
    | ⟨8, _⟩ => show _ = _; kernel_rfl
    | ⟨9, _⟩ => show _ = _; kernel_rfl
    | ⟨10, _⟩ => show _ = _; kernel_rfl
    | ⟨11, _⟩ => show _ = _; kernel_rfl
    | ⟨12, _⟩ => show _ = _; kernel_rfl
    | ⟨13, _⟩ => show _ = _; kernel_rfl
    | ⟨14, _⟩ => show _ = _; kernel_rfl
    | ⟨15, _⟩ => show _ = _; kernel_rfl
    | ⟨16, _⟩ => show _ = _; kernel_rfl
    | ⟨17, _⟩ => show _ = _; kernel_rfl
    | ⟨18, _⟩ => show _ = _; kernel_rfl
    | ⟨19, _⟩ => show _ = _; kernel_rfl
    | ⟨20, _⟩ => show _ = _; kernel_rfl
    | ⟨21, _⟩ => show _ = _; kernel_rfl
    | ⟨_ + 22, h⟩ => exact absurd h (by omega)
  exact H ⟨k, hk⟩
attribute [local irreducible] rowC cellsC
theorem arr_size : (Tryz.prog.info? 238).map (·.size) = some (cellsC .u8).size := by kernel_rfl
theorem rowI_name_out {z : Int} (h : z < 0 ∨ 22 ≤ z) : rowI z = ⟨⟨#[]⟩, 0, 0, 0, 0⟩ := h.elim rowI_neg rowI_great
theorem vnameI (z : Int) (w : World) (hc : Calls10 w) : Calls Tryz.prog 92 #[.int .i64 z] w fun e w' => e = .returned (.string (rowI z).name) ∧ w = w' := by
  by_cases h : z < 0 ∨ 22 ≤ z
  · rw [rowI_name_out h]; exact vname_out z h w
  · obtain ⟨n, rfl⟩ := Int.eq_ofNat_of_zero_le (show 0 ≤ z by omega)
    rw [rowI_nat]; exact vname n (by omega) w hc
end Go.Proofs.YtollifnnpihfdaaGreatDoor

/- Number, of the program and of the reference; Name and Shape for every number. -/
import Derived.Test.YtokkbboahajbhaaGreatDoorCallRGet
namespace Go.Proofs.YtokkbboahajbhaaGreatDoor
open Go.RowKit
/-- The number of a name, or -1. -/
def numC (s : ByteArray) : Int := match (List.range 22).find? (fun n => (rowC n).name.toList == s.toList) with | some n => (n : Int) | none => -1
theorem numC_at {s : ByteArray} {k : Nat} (hk : k < 22) (h : ∀ j, j < k → (rowC j).name ≠ s) (he : (rowC k).name = s) : numC s = k := by
  have : (List.range 22).find? (fun n => (rowC n).name.toList == s.toList) = some k := by
    rw [List.find?_range_eq_some]
    refine ⟨str_eq he, by simpa using hk, fun j hj => ?_⟩
    simp [str_ne (h j hj)]
  unfold numC; rw [this]
theorem numC_none {s : ByteArray} (h : ∀ j, j < 22 → (rowC j).name ≠ s) : numC s = -1 := by
  have : (List.range 22).find? (fun n => (rowC n).name.toList == s.toList) = none := by
    rw [List.find?_range_eq_none]
    intro j hj
    simp [str_ne (h j hj)]
  unfold numC; rw [this]
theorem idx_at (k : Nat) (hk : k < 22) (w : World) : (Instr.index 73 (.agg (cellsC .u8)) (.int .i64 (k : Int))).run Tryz.prog w = .ok (.agg #[.string (rowC k).name, .int .u8 (rowC k).nums, .int .u8 (rowC k).pths, .int .u8 (rowC k).least, .int .u8 (rowC k).most]) w := by
  have H : ∀ m : Fin 22, (Instr.index 73 (.agg (cellsC .u8)) (.int .i64 (m.val : Int))).run Tryz.prog w = .ok (.agg #[.string (rowC m).name, .int .u8 (rowC m).nums, .int .u8 (rowC m).pths, .int .u8 (rowC m).least, .int .u8 (rowC m).most]) w := by
    intro m
    match m with
    | ⟨0, _⟩ => show _ = _; kernel_rfl
    | ⟨1, _⟩ => show _ = _; kernel_rfl
    | ⟨2, _⟩ => show _ = _; kernel_rfl
    | ⟨3, _⟩ => show _ = _; kernel_rfl
    | ⟨4, _⟩ => show _ = _; kernel_rfl
    | ⟨5, _⟩ => show _ = _; kernel_rfl
    | ⟨6, _⟩ => show _ = _; kernel_rfl
    | ⟨7, _⟩ => show _ = _; kernel_rfl
    | ⟨8, _⟩ => show _ = _; kernel_rfl
    | ⟨9, _⟩ => show _ = _; kernel_rfl
    | ⟨10, _⟩ => show _ = _; kernel_rfl
    | ⟨11, _⟩ => show _ = _; kernel_rfl
    | ⟨12, _⟩ => show _ = _; kernel_rfl
    | ⟨13, _⟩ => show _ = _; kernel_rfl
    | ⟨14, _⟩ => show _ = _; kernel_rfl
    | ⟨15, _⟩ => show _ = _; kernel_rfl
    | ⟨16, _⟩ => show _ = _; kernel_rfl
    | ⟨17, _⟩ => show _ = _; kernel_rfl
    | ⟨18, _⟩ => show _ = _; kernel_rfl
    | ⟨19, _⟩ => show _ = _; kernel_rfl
    | ⟨20, _⟩ => show _ = _; kernel_rfl
    | ⟨21, _⟩ => show _ = _; kernel_rfl
    | ⟨_ + 22, h⟩ => exact absurd h (by omega)
  exact H ⟨k, hk⟩
attribute [local irreducible] rowC cellsC
theorem arr_size : (Tryz.prog.info? 73).map (·.size) = some (cellsC .u8).size := by kernel_rfl
set_option maxHeartbeats 1000000 in
theorem vnumber (s : ByteArray) (w : World) (hc : Calls10 w) : Calls Tryz.prog 50 #[.string s] w fun e w' => e = .returned (.int .i64 (numC s)) ∧ Below w.heap.size w w' := by
  obtain ⟨tt, fr, hg⟩ := hc
  have HG := Lib.hid hg
  clear hg
  go_enter Tryz.func50, Tryz.ntmps50
  go_wp2_with ((with_reducible refine wpList_load_row ?_ 73 (.global 0) ?_ 0 ?_ tt (cellsC .u8) fr _ HG.out Tryz.underlying73 ?_ ?_ ?_); (iterate 4 rfl); exact arr_size)
  go_loopw [2, 3, 4, 6] (fun _ _ _ i wr => ∃ k : Nat, k ≤ 22 ∧ i = .int .i64 k ∧ (∀ j, j < k → (rowC j).name ≠ s) ∧ Below w.heap.size w wr) (fun _ _ _ i _ => 22 - (intOf i).toNat)
  case atStart => exact ⟨0, by omega, rfl, fun j hj => by omega, Below.refl _ _⟩
  case round =>
    obtain ⟨k, hk, rfl, hn, hb⟩ := hrel
    have HN := Lib.hid hn
    have HB := Lib.hid hb
    clear hn hb
    by_cases hlt : k < 22
    · have hi := idx_at k hlt
      by_cases he : (rowC k).name = s
      · have hs := str_eq he
        have HE := Lib.hid (numC_at hlt HN.out he)
        clear he
        go_wp2_with fail
        go_ret
        exact ⟨by rw [HE.out]; rfl, HB.out.alloc HB.out.size _⟩
      · have hs := str_ne he
        have HM := Lib.hid (show ∀ j, j < k + 1 → (rowC j).name ≠ s from fun j hj => by
          by_cases e : j = k
          · rw [e]; exact he
          · exact HN.out j (by omega))
        clear he
        go_wp2_with fail
        go_roundw
        case rel => exact ⟨k + 1, by omega, by go_num, HM.out, HB.out.alloc HB.out.size _⟩
        case measure => simp [intOf]; omega
    · have HE := Lib.hid (numC_none fun j hj => HN.out j (by omega))
      go_wp2_with fail
      go_ret
      exact ⟨by rw [HE.out]; rfl, HB.out⟩
set_option maxHeartbeats 1000000 in
theorem rnumber10 (s : ByteArray) (w : World) : Calls Tryz.prog 41 #[.string s] w fun e w' => e = .returned (.int .i64 (numC s)) ∧ Below w.heap.size w w' := by
  go_enter Tryz.func41, Tryz.ntmps41
  go_wp2_with fail
  go_loopw [2, 3] (fun _ i wr => ∃ k : Nat, k ≤ 22 ∧ i = .int .i64 k ∧ (∀ j, j < k → (rowC j).name ≠ s) ∧ Below w.heap.size w wr) (fun _ i _ => 22 - (intOf i).toNat)
  case atStart => exact ⟨0, by omega, rfl, fun j hj => by omega, Below.refl _ _⟩
  case round =>
    obtain ⟨k, hk, rfl, hn, hb⟩ := hrel
    have HN := Lib.hid hn
    have HB := Lib.hid hb
    clear hn hb
    by_cases hlt : k < 22
    · have HK := Lib.hid (rowI_nat k)
      go_wp2_with fail
      refine (rcount _).mono ?_
      rintro e w1 ⟨rfl, hb1⟩
      have HB1 := Lib.hid (below_then HB.out hb1)
      clear hb1 HB
      go_wp2_with fail
      refine (rname _ _).mono ?_
      rintro e w2 ⟨rfl, hb2⟩
      rw [HK.out]
      have HB2 := Lib.hid (below_then HB1.out hb2)
      clear hb2 HB1
      by_cases he : (rowC k).name = s
      · have hs := str_eq he
        have HE := Lib.hid (numC_at hlt HN.out he)
        clear he
        go_wp2_with fail
        go_ret
        exact ⟨by rw [HE.out]; rfl, HB2.out⟩
      · have hs := str_ne he
        have HM := Lib.hid (show ∀ j, j < k + 1 → (rowC j).name ≠ s from fun j hj => by
          by_cases e : j = k
          · rw [e]; exact he
          · exact HN.out j (by omega))
        clear he
        go_wp2_with fail
        go_roundw
        case rel => exact ⟨k + 1, by omega, by go_num, HM.out, HB2.out⟩
        case measure => simp [intOf]; omega
    · have HE := Lib.hid (numC_none fun j hj => HN.out j (by omega))
      go_wp2_with fail
      refine (rcount _).mono ?_
      rintro e w1 ⟨rfl, hb1⟩
      have HB1 := Lib.hid (below_then HB.out hb1)
      clear hb1 HB
      go_wp2_with fail
      go_ret
      exact ⟨by rw [HE.out]; rfl, HB1.out⟩
theorem rowI_name_out {z : Int} (h : z < 0 ∨ 22 ≤ z) : rowI z = ⟨⟨#[]⟩, 0, 0, 0, 0⟩ := h.elim rowI_neg rowI_great
theorem vnameI (z : Int) (w : World) (hc : Calls10 w) : Calls Tryz.prog 28 #[.int .i64 z] w fun e w' => e = .returned (.string (rowI z).name) ∧ w = w' := by
  by_cases h : z < 0 ∨ 22 ≤ z
  · rw [rowI_name_out h]; exact vname_out z h w
  · obtain ⟨n, rfl⟩ := Int.eq_ofNat_of_zero_le (show 0 ≤ z by omega)
    rw [rowI_nat]; exact vname n (by omega) w hc
theorem vshapeI (z : Int) (w : World) (hc : Calls10 w) : Calls Tryz.prog 27 #[.int .i64 z] w fun e w' => e = .returned (.tuple #[.int .i64 (rowI z).nums, .int .i64 (rowI z).pths, .int .i64 (rowI z).least, .int .i64 (rowI z).most]) ∧ Below w.heap.size w w' := by
  by_cases h : z < 0 ∨ 22 ≤ z
  · rw [rowI_name_out h]; exact (vshape_out z h w).mono fun _ _ hh => ⟨hh.1, hh.2 ▸ Below.refl _ _⟩
  · obtain ⟨n, rfl⟩ := Int.eq_ofNat_of_zero_le (show 0 ≤ z by omega)
    rw [rowI_nat]; exact vshape n (by omega) w hc
end Go.Proofs.YtokkbboahajbhaaGreatDoor

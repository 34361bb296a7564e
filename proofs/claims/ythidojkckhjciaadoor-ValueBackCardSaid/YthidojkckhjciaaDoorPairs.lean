/- The walk of the law ValuePairs. -/
import Derived.Test.YthidojkckhjciaaDoorFormat
import Derived.Deep.DrawnRows
namespace Go.Proofs.YthidojkckhjciaaDoor
open Go.RowKit
abbrev pairO (nm : ByteArray) (kd nu : Int) (tx : ByteArray) : Obj := .cells #[.string nm, .int .i64 kd, .int .i64 nu, .string tx] 31
theorem box_cells {nm : ByteArray} {kd nu : Int} {tx : ByteArray} {w w1 : World} (h : Below (w.heap.size + 1) (w.alloc (pairO nm kd nu tx)) w1) :
    Below (w.heap.size + 1) (w.alloc (pairO nm kd nu tx)) w1 ∧ w1.cell? ⟨w.heap.size, 0, none⟩ = some (.string nm) ∧ w1.cell? ⟨w.heap.size, 1, none⟩ = some (.int .i64 kd) ∧ w1.cell? ⟨w.heap.size, 2, none⟩ = some (.int .i64 nu) ∧ w1.cell? ⟨w.heap.size, 3, none⟩ = some (.string tx) :=
  ⟨h, lit_cells h 0, lit_cells h 1, lit_cells h 2, lit_cells h 3⟩
theorem box_keep {nm : ByteArray} {kd nu : Int} {tx : ByteArray} {w W w1 : World}
    (h : Below (w.heap.size + 1) (w.alloc (pairO nm kd nu tx)) W ∧ W.cell? ⟨w.heap.size, 0, none⟩ = some (.string nm) ∧ W.cell? ⟨w.heap.size, 1, none⟩ = some (.int .i64 kd) ∧ W.cell? ⟨w.heap.size, 2, none⟩ = some (.int .i64 nu) ∧ W.cell? ⟨w.heap.size, 3, none⟩ = some (.string tx)) (hb : Below W.heap.size W w1) :
    Below (w.heap.size + 1) (w.alloc (pairO nm kd nu tx)) w1 ∧ w1.cell? ⟨w.heap.size, 0, none⟩ = some (.string nm) ∧ w1.cell? ⟨w.heap.size, 1, none⟩ = some (.int .i64 kd) ∧ w1.cell? ⟨w.heap.size, 2, none⟩ = some (.int .i64 nu) ∧ w1.cell? ⟨w.heap.size, 3, none⟩ = some (.string tx) :=
  box_cells (h.1.trans (hb.mono (by have := h.1.size; simp at this; omega)))
theorem box_tab {nm : ByteArray} {kd nu : Int} {tx : ByteArray} {w W : World} (ht : Tab w)
    (h : Below (w.heap.size + 1) (w.alloc (pairO nm kd nu tx)) W ∧ W.cell? ⟨w.heap.size, 0, none⟩ = some (.string nm) ∧ W.cell? ⟨w.heap.size, 1, none⟩ = some (.int .i64 kd) ∧ W.cell? ⟨w.heap.size, 2, none⟩ = some (.int .i64 nu) ∧ W.cell? ⟨w.heap.size, 3, none⟩ = some (.string tx)) : Tab W :=
  ht.below (below_lit h.1) (Nat.le_refl _)
theorem box_fin {nm : ByteArray} {kd nu : Int} {tx : ByteArray} {w W : World}
    (h : Below (w.heap.size + 1) (w.alloc (pairO nm kd nu tx)) W ∧ W.cell? ⟨w.heap.size, 0, none⟩ = some (.string nm) ∧ W.cell? ⟨w.heap.size, 1, none⟩ = some (.int .i64 kd) ∧ W.cell? ⟨w.heap.size, 2, none⟩ = some (.int .i64 nu) ∧ W.cell? ⟨w.heap.size, 3, none⟩ = some (.string tx)) : Below w.heap.size w W := below_lit h.1
attribute [local irreducible] checkE fmtS
attribute [local go_sem ↓] Go.wp_at_zero Go.wp_at_succ
set_option maxHeartbeats 2000000 in
theorem valuePairs_walk (nm : ByteArray) (kd nu : Int) (tx : ByteArray) (w : World) (hm : nm.size ≤ maxLen) (ht : tx.size ≤ maxLen) (h0 : -9223372036854775808 ≤ nu) (h1 : nu ≤ 9223372036854775807) (hT : Tab w) (hP : Pow w) :
    Calls Tryd.prog 6 #[pairV nm kd nu tx] w fun e w' => e = .returned (.bool true) ∧ Below w.heap.size w w' := by
  have HM := Lib.hid hm
  have HT := Lib.hid ht
  unfold maxLen at hm ht
  by_cases c1 : nm.size ≤ 100
  · by_cases c2 : tx.size ≤ 1000
    · go_enter Tryd.func6, Tryd.ntmps6
      go_wp2_with fail
      refine (vformat nm kd nu tx _ HM.out HT.out h0 h1 (hT.below ((Below.refl _ _).alloc (Nat.le_refl _) _) (Nat.le_refl _)) (hP.below ((Below.refl _ _).alloc (Nat.le_refl _) _) (Nat.le_refl _))).mono ?_
      rintro e w1 ⟨rfl, hb1⟩
      have s1 := box_cells (below_box hb1)
      obtain ⟨b1, l0, l1, l2, l3⟩ := s1
      clear hb1
      go_wp2_with fail
      refine (rformat nm kd nu tx _ HM.out HT.out h0 h1).mono ?_
      rintro e w2 ⟨rfl, hb2⟩
      have s2 := box_keep ⟨b1, l0, l1, l2, l3⟩ hb2
      clear hb2 b1 l0 l1 l2 l3
      obtain ⟨b1, l0, l1, l2, l3⟩ := s2
      go_wp2_with fail
      go_region_held3 (fun w' => Below (w.heap.size + 1) (w.alloc (pairO nm kd nu tx)) w' ∧ w'.cell? ⟨w.heap.size, 0, none⟩ = some (.string nm) ∧ w'.cell? ⟨w.heap.size, 1, none⟩ = some (.int .i64 kd) ∧ w'.cell? ⟨w.heap.size, 2, none⟩ = some (.int .i64 nu) ∧ w'.cell? ⟨w.heap.size, 3, none⟩ = some (.string tx))
        (first | exact ⟨b1.drew, l0, l1, l2, l3⟩ | exact box_keep (by assumption) hb)
        (first | (go_at_call 18; refine (vcheck _ _ _ _ _ HM.out HT.out).mono ?_; rintro e w3 ⟨rfl, hb⟩) | (go_at_call 19; refine (rcheck _ _ _ _ _ HM.out HT.out).mono ?_; rintro e w3 ⟨rfl, hb⟩) | (go_at_call 11; refine (awake_true _ (box_tab hT (by assumption))).mono ?_; rintro e w3 ⟨rfl, hb⟩))
      all_goals
        go_wp2_with fail
        go_ret
        exact ⟨rfl, box_fin (nm := nm) (kd := kd) (nu := nu) (tx := tx) (by assumption)⟩
    · go_enter Tryd.func6, Tryd.ntmps6
      go_wp2_with fail
      refine (awake_true _ (hT.below ((Below.refl _ _).alloc (Nat.le_refl _) _) (Nat.le_refl _))).mono ?_
      rintro e w3 ⟨rfl, hb3⟩
      go_wp2_with fail
      go_ret
      exact ⟨rfl, below_lit (below_box hb3)⟩
  · go_enter Tryd.func6, Tryd.ntmps6
    go_wp2_with fail
    refine (awake_true _ (hT.below ((Below.refl _ _).alloc (Nat.le_refl _) _) (Nat.le_refl _))).mono ?_
    rintro e w3 ⟨rfl, hb3⟩
    go_wp2_with fail
    go_ret
    exact ⟨rfl, below_lit (below_box hb3)⟩
end Go.Proofs.YthidojkckhjciaaDoor

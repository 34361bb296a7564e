/- Number, Allowed, and the classes of fields, of the program and of the reference. -/
import Derived.Test.YtnpaoepkpdileaaDoorFieldTab
import Derived.Deep.QuietTactic
import Derived.BigQuiet
namespace Go.Proofs.YtnpaoepkpdileaaDoor
open Go.RowKit
theorem ret_b {x y : Bool} (h : x = y) : Ending.returned (.bool x) = Ending.returned (.bool y) := by rw [h]
attribute [local irreducible] cellsN cellsO fieldN opN
set_option maxHeartbeats 1000000 in
theorem vnumF (s : ByteArray) (w : World) (hn : FNames w) : Calls Tryd.prog 23 #[.string s] w fun e w' => e = .returned (.int .i64 (numF s)) ∧ w = w' := by
  have HC := Lib.hid (fun k (hk : k < 23) => hn.at hk)
  clear hn
  go_enter Tryd.func23, Tryd.ntmps23
  go_wp2_with fail
  go_loop [3] (fun i => ∃ k : Nat, k ≤ 22 ∧ i = .int .i64 ((k : Int) + 1) ∧ Hid (∀ j, j < k → fieldN (j + 1) ≠ s)) (fun i => 24 - (intOf i).toNat)
  case atStart => exact ⟨0, by omega, rfl, fun j hj => by omega⟩
  case round =>
    obtain ⟨k, hk, rfl, hno⟩ := hrel
    by_cases hlt : k < 22
    · have hc := HC.out (k + 1) (by omega)
      by_cases he : fieldN (k + 1) = s
      · have hs := str_eq he
        have HE := Lib.hid (numF_at hlt hno.out he)
        clear he
        go_wp2_with fail
        go_ret
        exact ⟨by rw [HE.out]; rfl, rfl⟩
      · have hs := str_ne he
        have HM := Lib.hid (show ∀ j, j < k + 1 → fieldN (j + 1) ≠ s from fun j hj => by
          by_cases e : j = k
          · rw [e]; exact he
          · exact hno.out j (by omega))
        clear he
        go_wp2_with fail
        go_round
        case rel => exact ⟨k + 1, by omega, by go_num, HM.out⟩
        case measure => simp [intOf]; omega
    · have HE := Lib.hid (numF_none fun j hj => hno.out j (by omega))
      go_wp2_with fail
      go_ret
      exact ⟨by rw [HE.out]; rfl, rfl⟩
set_option maxHeartbeats 1000000 in
theorem rnumF (s : ByteArray) (w : World) : Calls Tryd.prog 24 #[.string s] w fun e w' => e = .returned (.int .i64 (numF s)) ∧ Below w.heap.size w w' := by
  go_enter Tryd.func24, Tryd.ntmps24
  go_wp2_with fail
  go_loopw [3] (fun i wr => ∃ k : Nat, k ≤ 22 ∧ i = .int .i64 ((k : Int) + 1) ∧ (∀ j, j < k → fieldN (j + 1) ≠ s) ∧ Below w.heap.size w wr) (fun i _ => 24 - (intOf i).toNat)
  case atStart => exact ⟨0, by omega, rfl, fun j hj => by omega, Below.refl _ _⟩
  case round =>
    obtain ⟨k, hk, rfl, hn, hb⟩ := hrel
    have HN := Lib.hid hn
    have HB := Lib.hid hb
    clear hn hb
    by_cases hlt : k < 22
    · go_wp2_with fail
      refine (rnames _).mono ?_
      rintro e w1 ⟨rfl, hg, hb1⟩
      have HB1 := Lib.hid (below_then HB.out hb1)
      have hc := (hg.cell (k + 1)).trans (cellsN_at (by omega))
      clear hb1 HB hg
      by_cases he : fieldN (k + 1) = s
      · have hs := str_eq he
        have HE := Lib.hid (numF_at hlt HN.out he)
        clear he
        go_wp2_with fail
        go_ret
        exact ⟨by rw [HE.out]; rfl, HB1.out⟩
      · have hs := str_ne he
        have HM := Lib.hid (show ∀ j, j < k + 1 → fieldN (j + 1) ≠ s from fun j hj => by
          by_cases e : j = k
          · rw [e]; exact he
          · exact HN.out j (by omega))
        clear he
        go_wp2_with fail
        go_roundw
        case rel => exact ⟨k + 1, by omega, by go_num, HM.out, HB1.out⟩
        case measure => simp [intOf]; omega
    · have HE := Lib.hid (numF_none fun j hj => HN.out j (by omega))
      go_wp2_with fail
      go_ret
      exact ⟨by rw [HE.out]; rfl, HB.out⟩
theorem vtextF (f : Int) (w : World) : Calls Tryd.prog 49 #[.int .i64 f] w fun e w' => e = .returned (.bool (textB f)) ∧ w = w' := by
  go_enter Tryd.func49, Tryd.ntmps49
  go_wp2_with fail
  all_goals (go_ret; exact ⟨ret_b (by unfold textB; ((try simp only [beq_iff_eq, beq_eq_false_iff_ne, ne_eq] at *); rw [Bool.eq_iff_iff]; simp <;> omega)), rfl⟩)
theorem rtextF (f : Int) (w : World) : Calls Tryd.prog 46 #[.int .i64 f] w fun e w' => e = .returned (.bool (textB f)) ∧ w = w' := by
  go_enter Tryd.func46, Tryd.ntmps46
  go_wp2_with fail
  all_goals (go_ret; exact ⟨ret_b (by unfold textB; ((try simp only [beq_iff_eq, beq_eq_false_iff_ne, ne_eq] at *); rw [Bool.eq_iff_iff]; simp <;> omega)), rfl⟩)
theorem vownerF (f : Int) (w : World) : Calls Tryd.prog 54 #[.int .i64 f] w fun e w' => e = .returned (.bool (ownerB f)) ∧ w = w' := by
  go_enter Tryd.func54, Tryd.ntmps54
  go_wp2_with fail
  all_goals (go_ret; exact ⟨ret_b (by unfold ownerB; ((try simp only [beq_iff_eq, beq_eq_false_iff_ne, ne_eq] at *); rw [Bool.eq_iff_iff]; simp <;> omega)), rfl⟩)
theorem rownerF (f : Int) (w : World) : Calls Tryd.prog 55 #[.int .i64 f] w fun e w' => e = .returned (.bool (ownerB f)) ∧ w = w' := by
  go_enter Tryd.func55, Tryd.ntmps55
  go_wp2_with fail
  all_goals (go_ret; exact ⟨ret_b (by unfold ownerB; ((try simp only [beq_iff_eq, beq_eq_false_iff_ne, ne_eq] at *); rw [Bool.eq_iff_iff]; simp <;> omega)), rfl⟩)
theorem vitemF (f : Int) (w : World) : Calls Tryd.prog 38 #[.int .i64 f] w fun e w' => e = .returned (.bool (itemB f)) ∧ w = w' := by
  go_enter Tryd.func38, Tryd.ntmps38
  go_wp2_with fail
  all_goals (go_ret; exact ⟨ret_b (by unfold itemB; ((try simp only [beq_iff_eq, beq_eq_false_iff_ne, ne_eq] at *); rw [Bool.eq_iff_iff]; simp <;> omega)), rfl⟩)
theorem ritemF (f : Int) (w : World) : Calls Tryd.prog 58 #[.int .i64 f] w fun e w' => e = .returned (.bool (itemB f)) ∧ w = w' := by
  go_enter Tryd.func58, Tryd.ntmps58
  go_wp2_with fail
  all_goals (go_ret; exact ⟨ret_b (by unfold itemB; ((try simp only [beq_iff_eq, beq_eq_false_iff_ne, ne_eq] at *); rw [Bool.eq_iff_iff]; simp <;> omega)), rfl⟩)
set_option maxHeartbeats 1000000 in
theorem vallowF (l f : Int) (w : World) : Calls Tryd.prog 25 #[.int .i64 l, .int .i64 f] w fun e w' => e = .returned (.bool (allowB l f)) ∧ w = w' := by
  go_enter Tryd.func25, Tryd.ntmps25
  go_wp2_with fail
  all_goals (go_ret; exact ⟨ret_b (by (try simp only [beq_iff_eq, beq_eq_false_iff_ne, ne_eq] at *); unfold allowB procB; (repeat' split) <;> first | rfl | ((try simp only [beq_iff_eq, beq_eq_false_iff_ne, ne_eq] at *); rw [Bool.eq_iff_iff]; simp <;> omega) | (exfalso; omega)), rfl⟩)
set_option maxHeartbeats 1000000 in
theorem rallowF (l f : Int) (w : World) : Calls Tryd.prog 26 #[.int .i64 l, .int .i64 f] w fun e w' => e = .returned (.bool (allowB l f)) ∧ w = w' := by
  go_enter Tryd.func26, Tryd.ntmps26
  go_wp2_with fail
  all_goals (go_ret; exact ⟨ret_b (by (try simp only [beq_iff_eq, beq_eq_false_iff_ne, ne_eq] at *); unfold allowB procB; (repeat' split) <;> first | rfl | ((try simp only [beq_iff_eq, beq_eq_false_iff_ne, ne_eq] at *); rw [Bool.eq_iff_iff]; simp <;> omega) | (exfalso; omega)), rfl⟩)
end Go.Proofs.YtnpaoepkpdileaaDoor

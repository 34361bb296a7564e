/- Texts of one proof, laid together. -/
import Derived.Test.YtollifnnpihfdaaGreatDoorC05
import Derived.Test.YtollifnnpihfdaaGreatDoorC01
import Derived.Test.YtollifnnpihfdaaGreatDoorProg
import Derived.Lib.Hide
import Derived.WalkSpells
import Derived.LoopTactic
import Derived.Outline
import Derived.RegionTactic
import Derived.IntWalk
import Derived.Deep.QuietTactic
import Derived.BigQuiet
import Derived.Test.YtollifnnpihfdaaGreatDoorC08
import Derived.Test.YtollifnnpihfdaaGreatDoorC09
/- The tables of fields and operators, of the program and of the reference; Name. -/
namespace Go.Proofs.YtollifnnpihfdaaGreatDoor
open Go.RowKit
def cellsN : Array Value := (fieldL.map Value.string).toArray
def cellsO : Array Value := (opL.map Value.string).toArray
def FNames (w : World) : Prop := Glob w 3 cellsN
def FOps (w : World) : Prop := Glob w 4 cellsO
theorem cellsN_at {k : Nat} (h : k < 23) : cellsN[k]? = some (.string (fieldN k)) := by
  have hl : k < fieldL.length := h
  unfold cellsN fieldN
  simp [List.getElem?_eq_getElem hl, List.getD_eq_getElem?_getD]
theorem cellsO_at {k : Nat} (h : k < 9) : cellsO[k]? = some (.string (opN k)) := by
  have hl : k < opL.length := h
  unfold cellsO opN
  simp [List.getElem?_eq_getElem hl, List.getD_eq_getElem?_getD]
theorem FNames.at {w : World} (h : FNames w) {k : Nat} (hk : k < 23) : w.cell? ⟨3, k, none⟩ = some (.string (fieldN k)) := (Glob.cell h k).trans (cellsN_at hk)
theorem FOps.at {w : World} (h : FOps w) {k : Nat} (hk : k < 9) : w.cell? ⟨4, k, none⟩ = some (.string (opN k)) := (Glob.cell h k).trans (cellsO_at hk)
theorem FNames.below {w w' : World} (h : FNames w) (hb : Below w.heap.size w w') : FNames w' := Glob.below h hb (Nat.le_refl _)
theorem FOps.below {w w' : World} (h : FOps w) (hb : Below w.heap.size w w') : FOps w' := Glob.below h hb (Nat.le_refl _)
theorem cellsN_lit : cellsN = #[.string ⟨#[]⟩, .string ⟨#[112, 105, 100]⟩, .string ⟨#[112, 112, 105, 100]⟩, .string ⟨#[117, 105, 100]⟩, .string ⟨#[101, 117, 105, 100]⟩, .string ⟨#[103, 105, 100]⟩, .string ⟨#[101, 103, 105, 100]⟩, .string ⟨#[97, 117, 105, 100]⟩, .string ⟨#[115, 101, 115]⟩, .string ⟨#[97, 48]⟩, .string ⟨#[97, 49]⟩, .string ⟨#[97, 50]⟩, .string ⟨#[97, 51]⟩, .string ⟨#[101, 120, 101]⟩, .string ⟨#[99, 111, 109, 109]⟩, .string ⟨#[101, 120, 105, 116]⟩, .string ⟨#[115, 117, 99, 99, 101, 115, 115]⟩, .string ⟨#[105, 110, 111, 100, 101]⟩, .string ⟨#[100, 101, 118]⟩, .string ⟨#[111, 98, 106, 95, 117, 105, 100]⟩, .string ⟨#[111, 98, 106, 95, 103, 105, 100]⟩, .string ⟨#[107, 105, 110, 100]⟩, .string ⟨#[116, 121, 112, 101]⟩] := rfl
theorem cellsO_lit : cellsO = #[.string ⟨#[]⟩, .string ⟨#[61]⟩, .string ⟨#[33, 61]⟩, .string ⟨#[60]⟩, .string ⟨#[60, 61]⟩, .string ⟨#[62]⟩, .string ⟨#[62, 61]⟩, .string ⟨#[38]⟩, .string ⟨#[38, 61]⟩] := rfl
attribute [local irreducible] cellsN cellsO fieldN opN
set_option maxRecDepth 100000 in
set_option maxHeartbeats 4000000 in
theorem rnames (w : World) : Calls Tryz.prog 247 #[] w fun e w' => e = .returned (.slice (some ⟨w.heap.size, 0, none⟩) 23 23) ∧ Glob w' w.heap.size cellsN ∧ Below w.heap.size w w' := by
  go_enter Tryz.func247, Tryz.ntmps247
  go_wp2
  go_ret
  exact ⟨rfl, ⟨9, (0, 0), (heap_alloc_new w _).trans (congrArg (fun c => some (Obj.cells c 9 (0, 0))) cellsN_lit.symm)⟩, (Below.refl _ _).alloc (Nat.le_refl _) _⟩
set_option maxRecDepth 100000 in
set_option maxHeartbeats 4000000 in
theorem rops (w : World) : Calls Tryz.prog 190 #[] w fun e w' => e = .returned (.slice (some ⟨w.heap.size, 0, none⟩) 9 9) ∧ Glob w' w.heap.size cellsO ∧ Below w.heap.size w w' := by
  go_enter Tryz.func190, Tryz.ntmps190
  go_wp2
  go_ret
  exact ⟨rfl, ⟨9, (0, 0), (heap_alloc_new w _).trans (congrArg (fun c => some (Obj.cells c 9 (0, 0))) cellsO_lit.symm)⟩, (Below.refl _ _).alloc (Nat.le_refl _) _⟩
theorem rnameF (f : Int) (w : World) : Calls Tryz.prog 189 #[.int .i64 f] w fun e w' => e = .returned (.string (nameF f)) ∧ Below w.heap.size w w' := by
  by_cases h0 : f < 1
  · have HE := Lib.hid (show nameF f = ⟨#[]⟩ from if_pos (.inl h0))
    go_enter Tryz.func189, Tryz.ntmps189
    go_wp2_with fail
    go_ret
    exact ⟨by rw [HE.out]; rfl, Below.refl _ _⟩
  · by_cases h1 : 22 < f
    · have HE := Lib.hid (show nameF f = ⟨#[]⟩ from if_pos (.inr h1))
      go_enter Tryz.func189, Tryz.ntmps189
      go_wp2_with fail
      go_ret
      exact ⟨by rw [HE.out]; rfl, Below.refl _ _⟩
    · obtain ⟨k, rfl⟩ := Int.eq_ofNat_of_zero_le (show 0 ≤ f by omega)
      have HE := Lib.hid (show nameF (k : Int) = fieldN k from (if_neg (by omega)).trans (by simp))
      go_enter Tryz.func189, Tryz.ntmps189
      go_wp2_with fail
      refine (rnames _).mono ?_
      rintro e w1 ⟨rfl, hg, hb⟩
      have hc := (hg.cell k).trans (cellsN_at (by omega))
      go_wp2_with fail
      go_ret
      exact ⟨by rw [HE.out]; rfl, hb⟩
end Go.Proofs.YtollifnnpihfdaaGreatDoor
/- Number, Allowed, and the classes of fields, of the program and of the reference. -/
namespace Go.Proofs.YtollifnnpihfdaaGreatDoor
open Go.RowKit
theorem ret_b {x y : Bool} (h : x = y) : Ending.returned (.bool x) = Ending.returned (.bool y) := by rw [h]
attribute [local irreducible] cellsN cellsO fieldN opN
theorem vtextF (f : Int) (w : World) : Calls Tryz.prog 183 #[.int .i64 f] w fun e w' => e = .returned (.bool (textB f)) ∧ w = w' := by
  go_enter Tryz.func183, Tryz.ntmps183
  go_wp2_with fail
  all_goals (go_ret; exact ⟨ret_b (by unfold textB; ((try simp only [beq_iff_eq, beq_eq_false_iff_ne, ne_eq] at *); rw [Bool.eq_iff_iff]; simp <;> omega)), rfl⟩)
theorem rtextF (f : Int) (w : World) : Calls Tryz.prog 191 #[.int .i64 f] w fun e w' => e = .returned (.bool (textB f)) ∧ w = w' := by
  go_enter Tryz.func191, Tryz.ntmps191
  go_wp2_with fail
  all_goals (go_ret; exact ⟨ret_b (by unfold textB; ((try simp only [beq_iff_eq, beq_eq_false_iff_ne, ne_eq] at *); rw [Bool.eq_iff_iff]; simp <;> omega)), rfl⟩)
theorem vownerF (f : Int) (w : World) : Calls Tryz.prog 242 #[.int .i64 f] w fun e w' => e = .returned (.bool (ownerB f)) ∧ w = w' := by
  go_enter Tryz.func242, Tryz.ntmps242
  go_wp2_with fail
  all_goals (go_ret; exact ⟨ret_b (by unfold ownerB; ((try simp only [beq_iff_eq, beq_eq_false_iff_ne, ne_eq] at *); rw [Bool.eq_iff_iff]; simp <;> omega)), rfl⟩)
theorem rownerF (f : Int) (w : World) : Calls Tryz.prog 218 #[.int .i64 f] w fun e w' => e = .returned (.bool (ownerB f)) ∧ w = w' := by
  go_enter Tryz.func218, Tryz.ntmps218
  go_wp2_with fail
  all_goals (go_ret; exact ⟨ret_b (by unfold ownerB; ((try simp only [beq_iff_eq, beq_eq_false_iff_ne, ne_eq] at *); rw [Bool.eq_iff_iff]; simp <;> omega)), rfl⟩)
theorem vitemF (f : Int) (w : World) : Calls Tryz.prog 275 #[.int .i64 f] w fun e w' => e = .returned (.bool (itemB f)) ∧ w = w' := by
  go_enter Tryz.func275, Tryz.ntmps275
  go_wp2_with fail
  all_goals (go_ret; exact ⟨ret_b (by unfold itemB; ((try simp only [beq_iff_eq, beq_eq_false_iff_ne, ne_eq] at *); rw [Bool.eq_iff_iff]; simp <;> omega)), rfl⟩)
theorem ritemF (f : Int) (w : World) : Calls Tryz.prog 236 #[.int .i64 f] w fun e w' => e = .returned (.bool (itemB f)) ∧ w = w' := by
  go_enter Tryz.func236, Tryz.ntmps236
  go_wp2_with fail
  all_goals (go_ret; exact ⟨ret_b (by unfold itemB; ((try simp only [beq_iff_eq, beq_eq_false_iff_ne, ne_eq] at *); rw [Bool.eq_iff_iff]; simp <;> omega)), rfl⟩)
set_option maxHeartbeats 1000000 in
theorem vallowF (l f : Int) (w : World) : Calls Tryz.prog 241 #[.int .i64 l, .int .i64 f] w fun e w' => e = .returned (.bool (allowB l f)) ∧ w = w' := by
  go_enter Tryz.func241, Tryz.ntmps241
  go_wp2_with fail
  all_goals (go_ret; exact ⟨ret_b (by (try simp only [beq_iff_eq, beq_eq_false_iff_ne, ne_eq] at *); unfold allowB procB; (repeat' split) <;> first | rfl | ((try simp only [beq_iff_eq, beq_eq_false_iff_ne, ne_eq] at *); rw [Bool.eq_iff_iff]; simp <;> omega) | (exfalso; omega)), rfl⟩)
set_option maxHeartbeats 1000000 in
theorem rallowF (l f : Int) (w : World) : Calls Tryz.prog 217 #[.int .i64 l, .int .i64 f] w fun e w' => e = .returned (.bool (allowB l f)) ∧ w = w' := by
  go_enter Tryz.func217, Tryz.ntmps217
  go_wp2_with fail
  all_goals (go_ret; exact ⟨ret_b (by (try simp only [beq_iff_eq, beq_eq_false_iff_ne, ne_eq] at *); unfold allowB procB; (repeat' split) <;> first | rfl | ((try simp only [beq_iff_eq, beq_eq_false_iff_ne, ne_eq] at *); rw [Bool.eq_iff_iff]; simp <;> omega) | (exfalso; omega)), rfl⟩)
end Go.Proofs.YtollifnnpihfdaaGreatDoor
/- Check of the program and of the reference returns checkF. Written by gen_fieldchk.py -/
namespace Go.Proofs.YtollifnnpihfdaaGreatDoor
open Go.RowKit
/-- A test as a value. -/
abbrev testC (fd op nu : Int) (tx : ByteArray) (ot : Int) : Array Value := #[.int .i64 fd, .int .i64 op, .int .i64 nu, .string tx, .int .i64 ot]
abbrev testV (fd op nu : Int) (tx : ByteArray) (ot : Int) : Value := .agg (testC fd op nu tx ot)
theorem ret_i {x y : Int} (h : x = y) : Ending.returned (.int .i64 x) = Ending.returned (.int .i64 y) := by rw [h]
theorem emptyF {s : ByteArray} (h : s.size = 0) : s.toList = [] := by
  rw [ByteArray.toList_eq]; exact List.eq_nil_of_length_eq_zero (by rw [Array.length_toList]; exact h)
theorem nonemptyF {s : ByteArray} (h : s.size ≠ 0) : s.toList ≠ [] := by
  rw [ByteArray.toList_eq]; intro e; exact h (by have := congrArg List.length e; rw [Array.length_toList] at this; exact this)
attribute [local irreducible] allowB textB ownerB itemB
set_option maxRecDepth 100000 in
set_option maxHeartbeats 8000000 in
theorem vcheckF (fd op nu : Int) (tx : ByteArray) (ot l : Int) (hx : tx.size ≤ maxLen) (w : World) : Calls Tryz.prog 179 #[testV fd op nu tx ot, .int .i64 l] w fun e w' => e = .returned (.int .i64 (checkF fd op nu tx ot l)) ∧ Below w.heap.size w w' := by
  unfold maxLen at hx
  have CA := Lib.hid (fun W => vallowF l fd W)
  have CO := Lib.hid (fun W => vallowF l ot W)
  have WF := Lib.hid (fun W => vownerF fd W)
  have WO := Lib.hid (fun W => vownerF ot W)
  have CT := Lib.hid (fun W => vtextF fd W)
  have HB := Lib.hid ((Below.refl w.heap.size w).alloc (Nat.le_refl _) (.cells (testC fd op nu tx ot) 85))
  go_enter Tryz.func179, Tryz.ntmps179
  go_wp2_with fail
  refine (CA.out _).mono ?_
  rintro e w1 ⟨rfl, rfl⟩
  cases ha : allowB l fd
  · go_wp2_with fail
    go_ret
    exact ⟨ret_i (show _ = _ from (show checkF _ _ _ _ _ _ = 120 by unfold checkF; simp [ha]).symm), HB.out⟩
  · by_cases h0 : ot = 0
    · subst h0
      by_cases ho : op < 1
      · go_wp2_with fail
        go_ret
        exact ⟨ret_i (show _ = _ from (show checkF _ _ _ _ _ _ = 121 by unfold checkF; simp [ha, ho]).symm), HB.out⟩
      · by_cases hp : 8 < op
        · go_wp2_with fail
          go_ret
          exact ⟨ret_i (show _ = _ from (show checkF _ _ _ _ _ _ = 121 by unfold checkF; simp [ha, ho, hp]).symm), HB.out⟩
        · by_cases h2 : op ≤ 2
          · have h12 : op = 1 ∨ op = 2 := by omega
            have HQ := Lib.hid h2
            rcases h12 with rfl | rfl
            all_goals
              go_wp2_with fail
              refine (CT.out _).mono ?_
              rintro e w1 ⟨rfl, rfl⟩
              cases ht : textB fd
              · have HT := Lib.hid ht
                by_cases hz : tx.size = 0
                · have e0 := emptyF hz
                  have e1 : tx.toList.isEmpty = true := by rw [e0]; rfl
                  go_wp2_with fail
                  refine (CT.out _).mono ?_
                  rintro e w1 ⟨rfl, rfl⟩
                  rw [HT.out]
                  go_wp2_with fail
                  go_ret
                  exact ⟨ret_i (show _ = _ from (show checkF _ _ _ _ _ _ = 0 by unfold checkF; simp [ha, ht, hz]).symm), HB.out⟩
                · have e0 := nonemptyF hz
                  have e1 : tx.toList.isEmpty = false := by simpa using e0
                  go_wp2_with fail
                  refine (CT.out _).mono ?_
                  rintro e w1 ⟨rfl, rfl⟩
                  rw [HT.out]
                  go_wp2_with fail
                  go_ret
                  exact ⟨ret_i (show _ = _ from (show checkF _ _ _ _ _ _ = 122 by unfold checkF; simp [ha, ht, hz]).symm), HB.out⟩
              · have HT := Lib.hid ht
                by_cases hnu : nu ≠ 0
                · go_wp2_with fail
                  go_ret
                  exact ⟨ret_i (show _ = _ from (show checkF _ _ _ _ _ _ = 122 by unfold checkF; simp [ha, ht, hnu]).symm), HB.out⟩
                · have hnu : nu = 0 := by simpa using hnu
                  subst hnu
                  by_cases hz : tx.size = 0
                  · have e0 := emptyF hz
                    have e1 : tx.toList.isEmpty = true := by rw [e0]; rfl
                    go_wp2_with fail
                    go_ret
                    exact ⟨ret_i (show _ = _ from (show checkF _ _ _ _ _ _ = 122 by unfold checkF; simp [ha, ht, hz]).symm), HB.out⟩
                  · have e0 := nonemptyF hz
                    have e1 : tx.toList.isEmpty = false := by simpa using e0
                    by_cases hg : 640 < tx.size
                    · go_wp2_with fail
                      go_ret
                      exact ⟨ret_i (show _ = _ from (show checkF _ _ _ _ _ _ = 122 by unfold checkF; simp [ha, ht, hz, hg]).symm), HB.out⟩
                    · go_wp2_with fail
                      refine (CT.out _).mono ?_
                      rintro e w1 ⟨rfl, rfl⟩
                      rw [HT.out]
                      go_wp2_with fail
                      go_ret
                      exact ⟨ret_i (show _ = _ from (show checkF _ _ _ _ _ _ = 0 by unfold checkF; simp [ha, ht, hz, hg]).symm), HB.out⟩
          · have h2 : 2 < op := by omega
            have n1 : (op != 1) = true := by simp; omega
            have n2 : (op != 2) = true := by simp; omega
            go_wp2_with fail
            refine (CT.out _).mono ?_
            rintro e w1 ⟨rfl, rfl⟩
            cases ht : textB fd
            · have HT := Lib.hid ht
              go_wp2_with fail
              refine (CT.out _).mono ?_
              rintro e w1 ⟨rfl, rfl⟩
              rw [HT.out]
              by_cases hz : tx.size = 0
              · have e0 := emptyF hz
                have e1 : tx.toList.isEmpty = true := by rw [e0]; rfl
                go_wp2_with fail
                refine (CT.out _).mono ?_
                rintro e w1 ⟨rfl, rfl⟩
                rw [HT.out]
                go_wp2_with fail
                go_ret
                exact ⟨ret_i (show _ = _ from (show checkF _ _ _ _ _ _ = 0 by unfold checkF; simp [ha, ht, ho, hp, h2, hz]).symm), HB.out⟩
              · have e0 := nonemptyF hz
                have e1 : tx.toList.isEmpty = false := by simpa using e0
                go_wp2_with fail
                refine (CT.out _).mono ?_
                rintro e w1 ⟨rfl, rfl⟩
                rw [HT.out]
                go_wp2_with fail
                go_ret
                exact ⟨ret_i (show _ = _ from (show checkF _ _ _ _ _ _ = 122 by unfold checkF; simp [ha, ht, ho, hp, h2, hz]).symm), HB.out⟩
            · go_wp2_with fail
              go_ret
              exact ⟨ret_i (show _ = _ from (show checkF _ _ _ _ _ _ = 121 by unfold checkF; simp [ha, ht, ho, hp, h2]).symm), HB.out⟩
    · go_wp2_with fail
      refine (CO.out _).mono ?_
      rintro e w1 ⟨rfl, rfl⟩
      cases hb : allowB l ot
      · go_wp2_with fail
        go_ret
        exact ⟨ret_i (show _ = _ from (show checkF _ _ _ _ _ _ = 120 by unfold checkF; simp [ha, h0, hb]).symm), HB.out⟩
      · go_wp2_with fail
        refine (WF.out _).mono ?_
        rintro e w1 ⟨rfl, rfl⟩
        cases hc : ownerB fd
        · go_wp2_with fail
          go_ret
          exact ⟨ret_i (show _ = _ from (show checkF _ _ _ _ _ _ = 120 by unfold checkF; simp [ha, h0, hb, hc]).symm), HB.out⟩
        · go_wp2_with fail
          refine (WO.out _).mono ?_
          rintro e w1 ⟨rfl, rfl⟩
          cases hd : ownerB ot
          · go_wp2_with fail
            go_ret
            exact ⟨ret_i (show _ = _ from (show checkF _ _ _ _ _ _ = 120 by unfold checkF; simp [ha, h0, hb, hc, hd]).symm), HB.out⟩
          · have HT := Lib.hid (owner_text hc)
            by_cases ho : op < 1
            · go_wp2_with fail
              go_ret
              exact ⟨ret_i (show _ = _ from (show checkF _ _ _ _ _ _ = 121 by unfold checkF; simp [ha, h0, hb, hc, hd, HT.out, ho]).symm), HB.out⟩
            · by_cases hp : 8 < op
              · go_wp2_with fail
                go_ret
                exact ⟨ret_i (show _ = _ from (show checkF _ _ _ _ _ _ = 121 by unfold checkF; simp [ha, h0, hb, hc, hd, HT.out, ho, hp]).symm), HB.out⟩
              · by_cases h2 : op ≤ 2
                · have h12 : op = 1 ∨ op = 2 := by omega
                  rcases h12 with rfl | rfl
                  all_goals
                    by_cases hnu : nu ≠ 0
                    · go_wp2_with fail
                      go_ret
                      exact ⟨ret_i (show _ = _ from (show checkF _ _ _ _ _ _ = 122 by unfold checkF; simp [ha, h0, hb, hc, hd, HT.out, hnu]).symm), HB.out⟩
                    · have hnu : nu = 0 := by simpa using hnu
                      subst hnu
                      by_cases hz : tx.size = 0
                      · have e0 := emptyF hz
                        have e1 : tx.toList.isEmpty = true := by rw [e0]; rfl
                        go_wp2_with fail
                        refine (CT.out _).mono ?_
                        rintro e w1 ⟨rfl, rfl⟩
                        rw [HT.out]
                        go_wp2_with fail
                        refine (CT.out _).mono ?_
                        rintro e w1 ⟨rfl, rfl⟩
                        rw [HT.out]
                        go_wp2_with fail
                        go_ret
                        exact ⟨ret_i (show _ = _ from (show checkF _ _ _ _ _ _ = 0 by unfold checkF; simp [ha, h0, hb, hc, hd, HT.out, hz]).symm), HB.out⟩
                      · have e0 := nonemptyF hz
                        have e1 : tx.toList.isEmpty = false := by simpa using e0
                        go_wp2_with fail
                        go_ret
                        exact ⟨ret_i (show _ = _ from (show checkF _ _ _ _ _ _ = 122 by unfold checkF; simp [ha, h0, hb, hc, hd, HT.out, hz]).symm), HB.out⟩
                · have h2 : 2 < op := by omega
                  have n1 : (op != 1) = true := by simp; omega
                  have n2 : (op != 2) = true := by simp; omega
                  go_wp2_with fail
                  refine (CT.out _).mono ?_
                  rintro e w1 ⟨rfl, rfl⟩
                  rw [HT.out]
                  go_wp2_with fail
                  go_ret
                  exact ⟨ret_i (show _ = _ from (show checkF _ _ _ _ _ _ = 121 by unfold checkF; simp [ha, h0, hb, hc, hd, HT.out, ho, hp, h2]).symm), HB.out⟩
end Go.Proofs.YtollifnnpihfdaaGreatDoor
/- Check of the reference returns checkF. Written by gen_fieldchk.py -/
namespace Go.Proofs.YtollifnnpihfdaaGreatDoor
open Go.RowKit
attribute [local irreducible] allowB textB ownerB itemB
set_option maxRecDepth 100000 in
set_option maxHeartbeats 8000000 in
theorem rcheckF (fd op nu : Int) (tx : ByteArray) (ot l : Int) (hx : tx.size ≤ maxLen) (w : World) : Calls Tryz.prog 153 #[testV fd op nu tx ot, .int .i64 l] w fun e w' => e = .returned (.int .i64 (checkF fd op nu tx ot l)) ∧ Below w.heap.size w w' := by
  unfold maxLen at hx
  have CA := Lib.hid (fun W => rallowF l fd W)
  have CO := Lib.hid (fun W => rallowF l ot W)
  have WF := Lib.hid (fun W => rownerF fd W)
  have WO := Lib.hid (fun W => rownerF ot W)
  have CT := Lib.hid (fun W => rtextF fd W)
  have HB := Lib.hid ((Below.refl w.heap.size w).alloc (Nat.le_refl _) (.cells (testC fd op nu tx ot) 85))
  go_enter Tryz.func153, Tryz.ntmps153
  go_wp2_with fail
  refine (CA.out _).mono ?_
  rintro e w1 ⟨rfl, rfl⟩
  cases ha : allowB l fd
  · go_wp2_with fail
    go_ret
    exact ⟨ret_i (show _ = _ from (show checkF _ _ _ _ _ _ = 120 by unfold checkF; simp [ha]).symm), HB.out⟩
  · by_cases h0 : ot = 0
    · subst h0
      by_cases ho : op < 1
      · go_wp2_with fail
        go_ret
        exact ⟨ret_i (show _ = _ from (show checkF _ _ _ _ _ _ = 121 by unfold checkF; simp [ha, ho]).symm), HB.out⟩
      · by_cases hp : 8 < op
        · go_wp2_with fail
          go_ret
          exact ⟨ret_i (show _ = _ from (show checkF _ _ _ _ _ _ = 121 by unfold checkF; simp [ha, ho, hp]).symm), HB.out⟩
        · by_cases h2 : op ≤ 2
          · have h12 : op = 1 ∨ op = 2 := by omega
            have HQ := Lib.hid h2
            rcases h12 with rfl | rfl
            all_goals
              go_wp2_with fail
              refine (CT.out _).mono ?_
              rintro e w1 ⟨rfl, rfl⟩
              cases ht : textB fd
              · have HT := Lib.hid ht
                by_cases hz : tx.size = 0
                · have e0 := emptyF hz
                  have e1 : tx.toList.isEmpty = true := by rw [e0]; rfl
                  go_wp2_with fail
                  refine (CT.out _).mono ?_
                  rintro e w1 ⟨rfl, rfl⟩
                  rw [HT.out]
                  go_wp2_with fail
                  go_ret
                  exact ⟨ret_i (show _ = _ from (show checkF _ _ _ _ _ _ = 0 by unfold checkF; simp [ha, ht, hz]).symm), HB.out⟩
                · have e0 := nonemptyF hz
                  have e1 : tx.toList.isEmpty = false := by simpa using e0
                  go_wp2_with fail
                  refine (CT.out _).mono ?_
                  rintro e w1 ⟨rfl, rfl⟩
                  rw [HT.out]
                  go_wp2_with fail
                  go_ret
                  exact ⟨ret_i (show _ = _ from (show checkF _ _ _ _ _ _ = 122 by unfold checkF; simp [ha, ht, hz]).symm), HB.out⟩
              · have HT := Lib.hid ht
                by_cases hnu : nu ≠ 0
                · go_wp2_with fail
                  go_ret
                  exact ⟨ret_i (show _ = _ from (show checkF _ _ _ _ _ _ = 122 by unfold checkF; simp [ha, ht, hnu]).symm), HB.out⟩
                · have hnu : nu = 0 := by simpa using hnu
                  subst hnu
                  by_cases hz : tx.size = 0
                  · have e0 := emptyF hz
                    have e1 : tx.toList.isEmpty = true := by rw [e0]; rfl
                    go_wp2_with fail
                    go_ret
                    exact ⟨ret_i (show _ = _ from (show checkF _ _ _ _ _ _ = 122 by unfold checkF; simp [ha, ht, hz]).symm), HB.out⟩
                  · have e0 := nonemptyF hz
                    have e1 : tx.toList.isEmpty = false := by simpa using e0
                    by_cases hg : 640 < tx.size
                    · go_wp2_with fail
                      go_ret
                      exact ⟨ret_i (show _ = _ from (show checkF _ _ _ _ _ _ = 122 by unfold checkF; simp [ha, ht, hz, hg]).symm), HB.out⟩
                    · go_wp2_with fail
                      refine (CT.out _).mono ?_
                      rintro e w1 ⟨rfl, rfl⟩
                      rw [HT.out]
                      go_wp2_with fail
                      go_ret
                      exact ⟨ret_i (show _ = _ from (show checkF _ _ _ _ _ _ = 0 by unfold checkF; simp [ha, ht, hz, hg]).symm), HB.out⟩
          · have h2 : 2 < op := by omega
            have n1 : (op != 1) = true := by simp; omega
            have n2 : (op != 2) = true := by simp; omega
            go_wp2_with fail
            refine (CT.out _).mono ?_
            rintro e w1 ⟨rfl, rfl⟩
            cases ht : textB fd
            · have HT := Lib.hid ht
              go_wp2_with fail
              refine (CT.out _).mono ?_
              rintro e w1 ⟨rfl, rfl⟩
              rw [HT.out]
              by_cases hz : tx.size = 0
              · have e0 := emptyF hz
                have e1 : tx.toList.isEmpty = true := by rw [e0]; rfl
                go_wp2_with fail
                refine (CT.out _).mono ?_
                rintro e w1 ⟨rfl, rfl⟩
                rw [HT.out]
                go_wp2_with fail
                go_ret
                exact ⟨ret_i (show _ = _ from (show checkF _ _ _ _ _ _ = 0 by unfold checkF; simp [ha, ht, ho, hp, h2, hz]).symm), HB.out⟩
              · have e0 := nonemptyF hz
                have e1 : tx.toList.isEmpty = false := by simpa using e0
                go_wp2_with fail
                refine (CT.out _).mono ?_
                rintro e w1 ⟨rfl, rfl⟩
                rw [HT.out]
                go_wp2_with fail
                go_ret
                exact ⟨ret_i (show _ = _ from (show checkF _ _ _ _ _ _ = 122 by unfold checkF; simp [ha, ht, ho, hp, h2, hz]).symm), HB.out⟩
            · go_wp2_with fail
              go_ret
              exact ⟨ret_i (show _ = _ from (show checkF _ _ _ _ _ _ = 121 by unfold checkF; simp [ha, ht, ho, hp, h2]).symm), HB.out⟩
    · have b0 : (ot != 0) = true := by simpa using h0
      go_wp2_with fail
      refine (CO.out _).mono ?_
      rintro e w1 ⟨rfl, rfl⟩
      cases hb : allowB l ot
      · go_wp2_with fail
        go_ret
        exact ⟨ret_i (show _ = _ from (show checkF _ _ _ _ _ _ = 120 by unfold checkF; simp [ha, h0, hb]).symm), HB.out⟩
      · go_wp2_with fail
        refine (WF.out _).mono ?_
        rintro e w1 ⟨rfl, rfl⟩
        cases hc : ownerB fd
        · go_wp2_with fail
          go_ret
          exact ⟨ret_i (show _ = _ from (show checkF _ _ _ _ _ _ = 120 by unfold checkF; simp [ha, h0, hb, hc]).symm), HB.out⟩
        · go_wp2_with fail
          refine (WO.out _).mono ?_
          rintro e w1 ⟨rfl, rfl⟩
          cases hd : ownerB ot
          · go_wp2_with fail
            go_ret
            exact ⟨ret_i (show _ = _ from (show checkF _ _ _ _ _ _ = 120 by unfold checkF; simp [ha, h0, hb, hc, hd]).symm), HB.out⟩
          · have HT := Lib.hid (owner_text hc)
            by_cases ho : op < 1
            · go_wp2_with fail
              go_ret
              exact ⟨ret_i (show _ = _ from (show checkF _ _ _ _ _ _ = 121 by unfold checkF; simp [ha, h0, hb, hc, hd, HT.out, ho]).symm), HB.out⟩
            · by_cases hp : 8 < op
              · go_wp2_with fail
                go_ret
                exact ⟨ret_i (show _ = _ from (show checkF _ _ _ _ _ _ = 121 by unfold checkF; simp [ha, h0, hb, hc, hd, HT.out, ho, hp]).symm), HB.out⟩
              · by_cases h2 : op ≤ 2
                · have h12 : op = 1 ∨ op = 2 := by omega
                  rcases h12 with rfl | rfl
                  all_goals
                    by_cases hnu : nu ≠ 0
                    · go_wp2_with fail
                      go_ret
                      exact ⟨ret_i (show _ = _ from (show checkF _ _ _ _ _ _ = 122 by unfold checkF; simp [ha, h0, hb, hc, hd, HT.out, hnu]).symm), HB.out⟩
                    · have hnu : nu = 0 := by simpa using hnu
                      subst hnu
                      by_cases hz : tx.size = 0
                      · have e0 := emptyF hz
                        have e1 : tx.toList.isEmpty = true := by rw [e0]; rfl
                        go_wp2_with fail
                        refine (CT.out _).mono ?_
                        rintro e w1 ⟨rfl, rfl⟩
                        rw [HT.out]
                        go_wp2_with fail
                        go_ret
                        exact ⟨ret_i (show _ = _ from (show checkF _ _ _ _ _ _ = 0 by unfold checkF; simp [ha, h0, hb, hc, hd, HT.out, hz]).symm), HB.out⟩
                      · have e0 := nonemptyF hz
                        have e1 : tx.toList.isEmpty = false := by simpa using e0
                        go_wp2_with fail
                        go_ret
                        exact ⟨ret_i (show _ = _ from (show checkF _ _ _ _ _ _ = 122 by unfold checkF; simp [ha, h0, hb, hc, hd, HT.out, hz]).symm), HB.out⟩
                · have h2 : 2 < op := by omega
                  have n1 : (op != 1) = true := by simp; omega
                  have n2 : (op != 2) = true := by simp; omega
                  go_wp2_with fail
                  refine (CT.out _).mono ?_
                  rintro e w1 ⟨rfl, rfl⟩
                  rw [HT.out]
                  go_wp2_with fail
                  go_ret
                  exact ⟨ret_i (show _ = _ from (show checkF _ _ _ _ _ _ = 121 by unfold checkF; simp [ha, h0, hb, hc, hd, HT.out, ho, hp, h2]).symm), HB.out⟩
end Go.Proofs.YtollifnnpihfdaaGreatDoor
/- Reading a test as the reference does: plain facts. -/
namespace Go.Proofs.YtollifnnpihfdaaGreatDoor
/-- What the reference reads of the value V of a field. -/
def refTx (fd : Int) (V : ByteArray) : ByteArray := if numF V = 0 ∧ textB fd = true then unqS V else ⟨#[]⟩
def refNu (fd : Int) (V : ByteArray) : Int := if numF V = 0 ∧ textB fd = false then rdN V else 0
theorem ref_complete {fd op nu : Int} {tx : ByteArray} {ot l : Int} (h : checkF fd op nu tx ot l = 0) (hi : I64 nu) : ot = numF (valS fd nu tx ot) ∧ tx = refTx fd (valS fd nu tx ot) ∧ nu = refNu fd (valS fd nu tx ot) := by
  have hc := ReadV.complete h hi
  obtain ⟨h1, h2, h3, h4, h5, h6, h7⟩ := checkF_zero h
  have hv := hc.val
  generalize valS fd nu tx ot = V at *
  unfold refTx refNu
  rcases hc with ⟨k1, k2, rfl, rfl, rfl⟩ | ⟨k1, k2, rfl, rfl, rfl⟩ | ⟨k1, k2, rfl, rfl, k5, k6⟩
  · have hz : numF V = 0 := by
      have hq := unq_textF k2
      have hs : (unqS V).size ≤ 640 := by rcases h6 with h | h; rw [k1] at h; cases h; exact h.2.2
      obtain ⟨c, r, e, hc⟩ := quoteL_headF (unqS V).data.toList
      exact numF_other (c := c) (r := r) (by rw [← e, ← quoteS_list _ hs, hq]) (by omega)
    rw [if_pos ⟨hz, k1⟩, if_neg (by rw [k1]; simp)]
    exact ⟨hz.symm, rfl, rfl⟩
  · rw [if_neg (fun h => k2 h.1), if_neg (fun h => k2 h.1)]
    exact ⟨rfl, rfl, rfl⟩
  · rw [if_neg (by rw [k1]; simp), if_pos ⟨k2, k1⟩, ← k6, rdN_num nu k5.1 k5.2]
    exact ⟨by rw [k6, k2], rfl, rfl⟩
/-- Where the reference's loops end without a test, none has the text. -/
theorem no_ref {s : ByteArray} (h : ∀ f o : Nat, 1 ≤ f → f ≤ 22 → 1 ≤ o → o ≤ 8 → ∀ V : ByteArray, fieldN f ++ opN o ++ V = s → ¬ (anyE f o (refNu f V) (refTx f V) (numF V) = 0 ∧ testS f o (refNu f V) (refTx f V) (numF V) = s)) : NoTest s := by
  intro fd op nu tx ot hi h0 e
  obtain ⟨l, hl⟩ := anyE_zero h0
  obtain ⟨h1, h2, h3, _⟩ := checkF_zero hl
  have r1 := allow_range h1
  have e1 := e
  unfold testS at e1
  rw [if_pos h0] at e1
  obtain ⟨c1, c2, c3⟩ := ref_complete hl hi
  have hf : ((fd.toNat : Nat) : Int) = fd := by omega
  have ho : ((op.toNat : Nat) : Int) = op := by omega
  refine h fd.toNat op.toNat (by omega) (by omega) (by omega) (by omega) _ e1 ?_
  rw [hf, ho, ← c1, ← c2, ← c3]
  exact ⟨h0, e⟩
end Go.Proofs.YtollifnnpihfdaaGreatDoor

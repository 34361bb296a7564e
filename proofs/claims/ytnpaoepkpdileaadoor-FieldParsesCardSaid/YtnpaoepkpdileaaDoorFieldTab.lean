/- The tables of fields and operators, of the program and of the reference; Name. -/
import Derived.Test.YtnpaoepkpdileaaDoorFieldPlain
import Derived.Test.YtnpaoepkpdileaaDoorOwn
import Derived.Test.YtnpaoepkpdileaaDoorBlk
import Derived.Test.YtnpaoepkpdileaaDoorProg
import Derived.Lib.Hide
import Derived.WalkSpells
import Derived.LoopTactic
import Derived.Outline
import Derived.RegionTactic
import Derived.IntWalk
import Derived.Deep.QuietTactic
import Derived.BigQuiet
namespace Go.Proofs.YtnpaoepkpdileaaDoor
open Go.RowKit
def cellsN : Array Value := (fieldL.map Value.string).toArray
def cellsO : Array Value := (opL.map Value.string).toArray
def FNames (w : World) : Prop := Glob w 0 cellsN
def FOps (w : World) : Prop := Glob w 1 cellsO
theorem cellsN_at {k : Nat} (h : k < 23) : cellsN[k]? = some (.string (fieldN k)) := by
  have hl : k < fieldL.length := h
  unfold cellsN fieldN
  simp [List.getElem?_eq_getElem hl, List.getD_eq_getElem?_getD]
theorem cellsO_at {k : Nat} (h : k < 9) : cellsO[k]? = some (.string (opN k)) := by
  have hl : k < opL.length := h
  unfold cellsO opN
  simp [List.getElem?_eq_getElem hl, List.getD_eq_getElem?_getD]
theorem FNames.at {w : World} (h : FNames w) {k : Nat} (hk : k < 23) : w.cell? ⟨0, k, none⟩ = some (.string (fieldN k)) := (Glob.cell h k).trans (cellsN_at hk)
theorem FOps.at {w : World} (h : FOps w) {k : Nat} (hk : k < 9) : w.cell? ⟨1, k, none⟩ = some (.string (opN k)) := (Glob.cell h k).trans (cellsO_at hk)
theorem FNames.below {w w' : World} (h : FNames w) (hb : Below w.heap.size w w') : FNames w' := Glob.below h hb (Nat.le_refl _)
theorem FOps.below {w w' : World} (h : FOps w) (hb : Below w.heap.size w w') : FOps w' := Glob.below h hb (Nat.le_refl _)
theorem cellsN_lit : cellsN = #[.string ⟨#[]⟩, .string ⟨#[112, 105, 100]⟩, .string ⟨#[112, 112, 105, 100]⟩, .string ⟨#[117, 105, 100]⟩, .string ⟨#[101, 117, 105, 100]⟩, .string ⟨#[103, 105, 100]⟩, .string ⟨#[101, 103, 105, 100]⟩, .string ⟨#[97, 117, 105, 100]⟩, .string ⟨#[115, 101, 115]⟩, .string ⟨#[97, 48]⟩, .string ⟨#[97, 49]⟩, .string ⟨#[97, 50]⟩, .string ⟨#[97, 51]⟩, .string ⟨#[101, 120, 101]⟩, .string ⟨#[99, 111, 109, 109]⟩, .string ⟨#[101, 120, 105, 116]⟩, .string ⟨#[115, 117, 99, 99, 101, 115, 115]⟩, .string ⟨#[105, 110, 111, 100, 101]⟩, .string ⟨#[100, 101, 118]⟩, .string ⟨#[111, 98, 106, 95, 117, 105, 100]⟩, .string ⟨#[111, 98, 106, 95, 103, 105, 100]⟩, .string ⟨#[107, 105, 110, 100]⟩, .string ⟨#[116, 121, 112, 101]⟩] := rfl
theorem cellsO_lit : cellsO = #[.string ⟨#[]⟩, .string ⟨#[61]⟩, .string ⟨#[33, 61]⟩, .string ⟨#[60]⟩, .string ⟨#[60, 61]⟩, .string ⟨#[62]⟩, .string ⟨#[62, 61]⟩, .string ⟨#[38]⟩, .string ⟨#[38, 61]⟩] := rfl
attribute [local irreducible] cellsN cellsO fieldN opN
theorem vnameF (f : Int) (w : World) (h : FNames w) : Calls Tryd.prog 21 #[.int .i64 f] w fun e w' => e = .returned (.string (nameF f)) ∧ w = w' := by
  by_cases h0 : f < 1
  · have HE := Lib.hid (show nameF f = ⟨#[]⟩ from if_pos (.inl h0))
    go_enter Tryd.func21, Tryd.ntmps21
    go_wp2_with fail
    go_ret
    exact ⟨by rw [HE.out]; rfl, rfl⟩
  · by_cases h1 : 22 < f
    · have HE := Lib.hid (show nameF f = ⟨#[]⟩ from if_pos (.inr h1))
      go_enter Tryd.func21, Tryd.ntmps21
      go_wp2_with fail
      go_ret
      exact ⟨by rw [HE.out]; rfl, rfl⟩
    · obtain ⟨k, rfl⟩ := Int.eq_ofNat_of_zero_le (show 0 ≤ f by omega)
      have HE := Lib.hid (show nameF (k : Int) = fieldN k from (if_neg (by omega)).trans (by simp))
      have hc := h.at (k := k) (by omega)
      go_enter Tryd.func21, Tryd.ntmps21
      go_wp2_with fail
      go_ret
      exact ⟨by rw [HE.out]; rfl, rfl⟩
set_option maxRecDepth 100000 in
set_option maxHeartbeats 4000000 in
theorem rnames (w : World) : Calls Tryd.prog 40 #[] w fun e w' => e = .returned (.slice (some ⟨w.heap.size, 0, none⟩) 23 23) ∧ Glob w' w.heap.size cellsN ∧ Below w.heap.size w w' := by
  go_enter Tryd.func40, Tryd.ntmps40
  go_wp2
  go_ret
  exact ⟨rfl, ⟨9, (0, 0), (heap_alloc_new w _).trans (congrArg (fun c => some (Obj.cells c 9 (0, 0))) cellsN_lit.symm)⟩, (Below.refl _ _).alloc (Nat.le_refl _) _⟩
set_option maxRecDepth 100000 in
set_option maxHeartbeats 4000000 in
theorem rops (w : World) : Calls Tryd.prog 45 #[] w fun e w' => e = .returned (.slice (some ⟨w.heap.size, 0, none⟩) 9 9) ∧ Glob w' w.heap.size cellsO ∧ Below w.heap.size w w' := by
  go_enter Tryd.func45, Tryd.ntmps45
  go_wp2
  go_ret
  exact ⟨rfl, ⟨9, (0, 0), (heap_alloc_new w _).trans (congrArg (fun c => some (Obj.cells c 9 (0, 0))) cellsO_lit.symm)⟩, (Below.refl _ _).alloc (Nat.le_refl _) _⟩
theorem rnameF (f : Int) (w : World) : Calls Tryd.prog 22 #[.int .i64 f] w fun e w' => e = .returned (.string (nameF f)) ∧ Below w.heap.size w w' := by
  by_cases h0 : f < 1
  · have HE := Lib.hid (show nameF f = ⟨#[]⟩ from if_pos (.inl h0))
    go_enter Tryd.func22, Tryd.ntmps22
    go_wp2_with fail
    go_ret
    exact ⟨by rw [HE.out]; rfl, Below.refl _ _⟩
  · by_cases h1 : 22 < f
    · have HE := Lib.hid (show nameF f = ⟨#[]⟩ from if_pos (.inr h1))
      go_enter Tryd.func22, Tryd.ntmps22
      go_wp2_with fail
      go_ret
      exact ⟨by rw [HE.out]; rfl, Below.refl _ _⟩
    · obtain ⟨k, rfl⟩ := Int.eq_ofNat_of_zero_le (show 0 ≤ f by omega)
      have HE := Lib.hid (show nameF (k : Int) = fieldN k from (if_neg (by omega)).trans (by simp))
      go_enter Tryd.func22, Tryd.ntmps22
      go_wp2_with fail
      refine (rnames _).mono ?_
      rintro e w1 ⟨rfl, hg, hb⟩
      have hc := (hg.cell k).trans (cellsN_at (by omega))
      go_wp2_with fail
      go_ret
      exact ⟨by rw [HE.out]; rfl, hb⟩
end Go.Proofs.YtnpaoepkpdileaaDoor

/- The walk of the law CallChecks (written by gen_callchecks.py). -/
import Derived.Test.YtokkbboahajbhaaGreatDoorCallAwake
namespace Go.Proofs.YtokkbboahajbhaaGreatDoor
open Go.RowKit
def HoldC (z : Int) (a : Nat → Int) (P : Option Addr) (cp : Nat) (A : Option Addr) (ca : Nat) (ps gs : List ByteArray) (w w' : World) : Prop := Below (w.heap.size + 1) (w.alloc (callO z a P ps.length cp A gs.length ca)) w' ∧ w'.cell? ⟨w.heap.size, 0, none⟩ = some (.int .i64 z) ∧ w'.cell? ⟨w.heap.size, 1, none⟩ = some (.int .i64 (a 0)) ∧ w'.cell? ⟨w.heap.size, 2, none⟩ = some (.int .i64 (a 1)) ∧ w'.cell? ⟨w.heap.size, 3, none⟩ = some (.int .i64 (a 2)) ∧ w'.cell? ⟨w.heap.size, 4, none⟩ = some (.int .i64 (a 3)) ∧ w'.cell? ⟨w.heap.size, 5, none⟩ = some (.slice P ps.length cp) ∧ w'.cell? ⟨w.heap.size, 6, none⟩ = some (.slice A gs.length ca)
theorem HoldC.of {z : Int} {a : Nat → Int} {P : Option Addr} {cp : Nat} {A : Option Addr} {ca : Nat} {ps gs : List ByteArray} {w w' : World} (h : Below (w.heap.size + 1) (w.alloc (callO z a P ps.length cp A gs.length ca)) w') : HoldC z a P cp A ca ps gs w w' := by
  have hg := (Blk.new w _ _).keep h (by omega)
  exact ⟨h, hg.cell 0, hg.cell 1, hg.cell 2, hg.cell 3, hg.cell 4, hg.cell 5, hg.cell 6⟩
attribute [local irreducible] callS callE lightB longB rowI
attribute [local go_sem ↓] Go.wp_at_zero Go.wp_at_succ
set_option maxRecDepth 100000 in
set_option maxHeartbeats 4000000 in
theorem agrees10 (z : Int) (a : Nat → Int) (P : Option Addr) (cp : Nat) (A : Option Addr) (ca : Nat) (ps gs : List ByteArray) (w : World) (B : Nat) (hB : B ≤ w.heap.size) (hP : StrsAt w B P ps) (hA : StrsAt w B A gs) (hlp : ps.length ≤ 1000) (hlg : gs.length ≤ 1000) (hsp : ∀ s ∈ ps, s.size ≤ maxLen) (hsg : ∀ s ∈ gs, s.size ≤ maxLen) (ha : ∀ j, j < 4 → -9223372036854775808 ≤ a j ∧ a j ≤ 9223372036854775807) (hc : Calls10 w) (hT : Tab w) (hW : Pow w) :
    Calls Tryz.prog 6 #[callV z a P ps.length cp A gs.length ca] w fun e w' => e = .returned (.bool true) ∧ Below w.heap.size w w' := by
  have HV := Lib.hid (fun (W : World) (h : Below w.heap.size w W) => vformat10 z a P cp A ca ps gs W B (Nat.le_trans hB h.size) (hP.keep h hB) (hA.keep h hB) hlp hlg hsp hsg ha (hc.below h (Nat.le_refl _)) (hT.below h (Nat.le_refl _)) (hW.below h (Nat.le_refl _)))
  have HR := Lib.hid (fun (W : World) (h : Below w.heap.size w W) => rformat10 z a P cp A ca ps gs W B (Nat.le_trans hB h.size) (hP.keep h hB) (hA.keep h hB) hlp hlg hsp hsg ha)
  have HVC := Lib.hid (fun (W : World) (h : Below w.heap.size w W) => vcheck10 z a P cp A ca ps gs W B (Nat.le_trans hB h.size) (hP.keep h hB) (hA.keep h hB) hlp hlg hsp hsg (hc.below h (Nat.le_refl _)))
  have HRC := Lib.hid (fun (W : World) (h : Below w.heap.size w W) => rcheck10 z a P cp A ca ps gs W B (Nat.le_trans hB h.size) (hP.keep h hB) (hA.keep h hB) hlp hlg hsp hsg)
  clear hP hA hsp hsg ha hc hT hW hlp hlg
  go_enter Tryz.func6, Tryz.ntmps6
  go_wp2_with fail
  refine (HV.out _ ((Below.refl _ _).alloc (Nat.le_refl _) _)).mono ?_
  rintro e w1 ⟨rfl, hb1⟩
  obtain ⟨b1, l0, l1, l2, l3, l4, l5, l6⟩ := HoldC.of (boxed hb1)
  clear hb1
  go_wp2_with fail
  refine (HR.out _ (unbox b1)).mono ?_
  rintro e w2 ⟨rfl, hb2⟩
  have s2 := HoldC.of (box_then b1 hb2)
  clear hb2 b1 l0 l1 l2 l3 l4 l5 l6
  obtain ⟨b1, l0, l1, l2, l3, l4, l5, l6⟩ := s2
  go_wp2_with fail
  go_region_held3 (fun w' => Below (w.heap.size + 1) (w.alloc (callO z a P ps.length cp A gs.length ca)) w' ∧ w'.cell? ⟨w.heap.size, 0, none⟩ = some (.int .i64 z) ∧ w'.cell? ⟨w.heap.size, 1, none⟩ = some (.int .i64 (a 0)) ∧ w'.cell? ⟨w.heap.size, 2, none⟩ = some (.int .i64 (a 1)) ∧ w'.cell? ⟨w.heap.size, 3, none⟩ = some (.int .i64 (a 2)) ∧ w'.cell? ⟨w.heap.size, 4, none⟩ = some (.int .i64 (a 3)) ∧ w'.cell? ⟨w.heap.size, 5, none⟩ = some (.slice P ps.length cp) ∧ w'.cell? ⟨w.heap.size, 6, none⟩ = some (.slice A gs.length ca))
    (first | exact ⟨b1.drew, l0, l1, l2, l3, l4, l5, l6⟩ | exact HoldC.of (box_then (And.left (by assumption)) hb))
    (first | (go_at_call 17; refine (HVC.out _ (unbox (And.left (by assumption)))).mono ?_; rintro e w3 ⟨rfl, hb⟩) | (go_at_call 18; refine (HRC.out _ (unbox (And.left (by assumption)))).mono ?_; rintro e w3 ⟨rfl, hb⟩))
  all_goals
    go_wp2_with fail
    go_ret
    exact ⟨rfl, unbox (And.left (by assumption))⟩
end Go.Proofs.YtokkbboahajbhaaGreatDoor

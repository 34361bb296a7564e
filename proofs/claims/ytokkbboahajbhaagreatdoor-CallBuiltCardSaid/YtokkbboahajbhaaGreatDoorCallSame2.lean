/- Same of the reference. -/
import Derived.Test.YtokkbboahajbhaaGreatDoorArrEq
import Derived.Test.YtokkbboahajbhaaGreatDoorCallAgree
namespace Go.Proofs.YtokkbboahajbhaaGreatDoor
open Go.RowKit
def EqC (z z' : Int) (a a' : Nat → Int) (ps ps' gs gs' : List ByteArray) : Prop := z = z' ∧ (∀ j, j < 4 → a j = a' j) ∧ ps = ps' ∧ gs = gs'
def SamePost (z z' : Int) (a a' : Nat → Int) (ps ps' gs gs' : List ByteArray) (w : World) (e : Ending) (w' : World) : Prop := ∃ r : Bool, e = .returned (.bool r) ∧ (r = true ↔ EqC z z' a a' ps ps' gs gs') ∧ Below w.heap.size w w'
theorem box_two {w w1 : World} {o o' : Obj} (h : Below (w.heap.size + 2) ((w.alloc o).alloc o') w1) : Below w.heap.size w w1 :=
  ((((Below.refl _ _).alloc (Nat.le_refl _) o).alloc (by simp) o')).trans (h.mono (by omega))
attribute [local irreducible] sameB
set_option maxRecDepth 100000 in
set_option maxHeartbeats 4000000 in
theorem rsameC (z z' : Int) (a a' : Nat → Int) (P P' : Option Addr) (cp cp' : Nat) (A A' : Option Addr) (ca ca' : Nat) (ps gs ps' gs' : List ByteArray) (w : World) (B : Nat) (hB : B ≤ w.heap.size) (hP : StrsAt w B P ps) (hA : StrsAt w B A gs) (hP' : StrsAt w B P' ps') (hA' : StrsAt w B A' gs') (l1 : ps.length ≤ 1000) (l2 : gs.length ≤ 1000) (l3 : ps'.length ≤ 1000) (l4 : gs'.length ≤ 1000) :
    Calls Tryz.prog 25 #[callV z a P ps.length cp A gs.length ca, callV z' a' P' ps'.length cp' A' gs'.length ca'] w (SamePost z z' a a' ps ps' gs gs' w) := by
  have H1 := Lib.hid (fun (W : World) (h : Below w.heap.size w W) => rsame W B P P' ps ps' cp cp' (Nat.le_trans hB h.size) (hP.keep h hB) (hP'.keep h hB) l1 l3)
  have H2 := Lib.hid (fun (W : World) (h : Below w.heap.size w W) => rsame W B A A' gs gs' ca ca' (Nat.le_trans hB h.size) (hA.keep h hB) (hA'.keep h hB) l2 l4)
  have hal : Below w.heap.size w ((w.alloc (callO z a P ps.length cp A gs.length ca)).alloc (callO z' a' P' ps'.length cp' A' gs'.length ca')) := ((Below.refl _ _).alloc (Nat.le_refl _) _).alloc (by simp) _
  clear hP hA hP' hA' l1 l2 l3 l4
  have hae := arr_eq (a 0) (a 1) (a 2) (a 3) (a' 0) (a' 1) (a' 2) (a' 3)
  by_cases hz : z = z'
  · have tz : (z == z') = true := by simpa using hz
    by_cases ha : a 0 = a' 0 ∧ a 1 = a' 1 ∧ a 2 = a' 2 ∧ a 3 = a' 3
    · have HEQ := Lib.hid (show ∀ j, j < 4 → a j = a' j from fun j hj => by
        match j, hj with
        | 0, _ => exact ha.1
        | 1, _ => exact ha.2.1
        | 2, _ => exact ha.2.2.1
        | 3, _ => exact ha.2.2.2)
      have hab : ((a 0 == a' 0) && ((a 1 == a' 1) && ((a 2 == a' 2) && (a 3 == a' 3)))) = true := by simp [ha.1, ha.2.1, ha.2.2.1, ha.2.2.2]
      rw [hab] at hae
      have HZ := Lib.hid hz
      clear hz ha hab
      cases h1 : sameB ps ps'
      · have HF := Lib.hid (show (false = true ↔ EqC z z' a a' ps ps' gs gs') from ⟨(fun h => by cases h), fun h => by
          have := sameB_iff.2 h.2.2.1; rw [h1] at this; cases this⟩)
        have H1F := Lib.hid h1
        clear h1
        go_enter Tryz.func25, Tryz.ntmps25
        go_wp2_with fail
        refine (H1.out _ hal).mono ?_
        rintro e w1 ⟨rfl, hb1⟩
        rw [H1F.out]
        go_wp2_with fail
        go_ret
        exact ⟨false, rfl, HF.out, below_then hal hb1⟩
      · have H1F := Lib.hid h1
        have HR := Lib.hid (show (sameB gs gs' = true ↔ EqC z z' a a' ps ps' gs gs') from ⟨fun h => ⟨HZ.out, HEQ.out, sameB_iff.1 h1, sameB_iff.1 h⟩, fun h => sameB_iff.2 h.2.2.2⟩)
        clear h1
        go_enter Tryz.func25, Tryz.ntmps25
        go_wp2_with fail
        refine (H1.out _ hal).mono ?_
        rintro e w1 ⟨rfl, hb1⟩
        rw [H1F.out]
        have b1 := below_then hal hb1
        have g1 := (((Blk.new w #[.int .i64 z, .int .i64 (a 0), .int .i64 (a 1), .int .i64 (a 2), .int .i64 (a 3), .slice P ps.length cp, .slice A gs.length ca] 28).alloc (callO z' a' P' ps'.length cp' A' gs'.length ca')).below hb1).cell 6
        have g2 := ((Blk.new (w.alloc (callO z a P ps.length cp A gs.length ca)) #[.int .i64 z', .int .i64 (a' 0), .int .i64 (a' 1), .int .i64 (a' 2), .int .i64 (a' 3), .slice P' ps'.length cp', .slice A' gs'.length ca'] 28).below hb1).cell 6
        rw [show (w.alloc (callO z a P ps.length cp A gs.length ca)).heap.size = w.heap.size + 1 by simp] at g2
        clear hb1
        go_wp2_with fail
        refine (H2.out _ b1).mono ?_
        rintro e w2 ⟨rfl, hb2⟩
        go_wp2_with fail
        go_ret
        exact ⟨_, rfl, HR.out, below_then b1 hb2⟩
    · have HF := Lib.hid (show (false = true ↔ EqC z z' a a' ps ps' gs gs') from ⟨(fun h => by cases h), fun h => absurd ⟨h.2.1 0 (by omega), h.2.1 1 (by omega), h.2.1 2 (by omega), h.2.1 3 (by omega)⟩ ha⟩)
      have hab : ((a 0 == a' 0) && ((a 1 == a' 1) && ((a 2 == a' 2) && (a 3 == a' 3)))) = false := by
        rw [← Bool.not_eq_true]; intro h; simp at h; exact ha h
      rw [hab] at hae
      clear hz ha hab
      go_enter Tryz.func25, Tryz.ntmps25
      go_wp2_with fail
      go_ret
      exact ⟨false, rfl, HF.out, hal⟩
  · have HF := Lib.hid (show (false = true ↔ EqC z z' a a' ps ps' gs gs') from ⟨(fun h => by cases h), fun h => absurd h.1 hz⟩)
    have tz : (z == z') = false := by simpa using hz
    clear hz
    go_enter Tryz.func25, Tryz.ntmps25
    go_wp2_with fail
    go_ret
    exact ⟨false, rfl, HF.out, hal⟩
end Go.Proofs.YtokkbboahajbhaaGreatDoor

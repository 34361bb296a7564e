/- The walk of the law CallChecks. -/
import Derived.Test.YtokkbboahajbhaaDoorCallAgree
namespace Go.Proofs.YtokkbboahajbhaaDoor
open Go.RowKit
def aTwo (a : Nat → Int) : Nat → Int := fun j => if j = 0 then a 0 else if j = 1 then a 1 else 0
attribute [local irreducible] callS callE lightB longB rowI
set_option maxRecDepth 100000 in
set_option maxHeartbeats 4000000 in
theorem callChecks_walk (z : Int) (a : Nat → Int) (P : Option Addr) (cp : Nat) (A : Option Addr) (ca : Nat) (ps gs : List ByteArray) (w : World) (B : Nat) (hB : B ≤ w.heap.size) (hP : StrsAt w B P ps) (hA : StrsAt w B A gs) (hlp : ps.length ≤ maxLen) (hlg : gs.length ≤ maxLen) (hsp : ∀ s ∈ ps, s.size ≤ maxLen) (hsg : ∀ s ∈ gs, s.size ≤ maxLen) (hz : -9223372036854775808 ≤ z ∧ z ≤ 9223372036854775807) (ha : ∀ j, j < 4 → -9223372036854775808 ≤ a j ∧ a j ≤ 9223372036854775807) (hc : Calls10 w) (hT : Tab w) (hW : Pow w) :
    Calls Tryd.prog 3 #[callV z a P ps.length cp A gs.length ca] w fun e w' => e = .returned (.bool true) ∧ Below w.heap.size w w' := by
  have HL := Lib.hid (fun (W : World) (h : Below w.heap.size w W) => light10 z a P cp A ca ps gs W B (Nat.le_trans hB h.size) (hP.keep h hB) (hA.keep h hB) hlp hlg hsp hsg)
  have HW := Lib.hid (fun (W : World) (h : Below w.heap.size w W) => awake10 W (hc.below h (Nat.le_refl _)) (hT.below h (Nat.le_refl _)) (hW.below h (Nat.le_refl _)))
  cases hl : lightB ps gs
  · rw [hl] at HL
    clear hP hA hsp hsg ha hc hT hW hlp hlg hl hz
    go_enter Tryd.func3, Tryd.ntmps3
    go_wp2_with fail
    refine (HL.out _ ((Below.refl _ _).alloc (Nat.le_refl _) _)).mono ?_
    rintro e w1 ⟨rfl, hb1⟩
    have hb := unbox' hb1
    clear hb1
    go_wp2_with fail
    refine (HW.out _ hb).mono ?_
    rintro e w2 ⟨rfl, hb2⟩
    go_wp2_with fail
    go_ret
    exact ⟨rfl, below_then hb hb2⟩
  · rw [hl] at HL
    obtain ⟨l1, l2, l3, l4⟩ := lightB_inv hl
    have HG := Lib.hid (fun (z' : Int) (a' : Nat → Int) (ha' : ∀ j, j < 4 → -9223372036854775808 ≤ a' j ∧ a' j ≤ 9223372036854775807) (W : World) (h : Below w.heap.size w W) => agrees10 z' a' P cp A ca ps gs W B (Nat.le_trans hB h.size) (hP.keep h hB) (hA.keep h hB) (by omega) (by omega) hsp hsg ha' (hc.below h (Nat.le_refl _)) (hT.below h (Nat.le_refl _)) (hW.below h (Nat.le_refl _)))
    have HI := Lib.hid ha
    clear hP hA hsp hsg ha hc hT hW hlp hlg hl l1 l2 l3 l4
    go_enter Tryd.func3, Tryd.ntmps3
    go_wp2_with fail
    refine (HL.out _ ((Below.refl _ _).alloc (Nat.le_refl _) _)).mono ?_
    rintro e w1 ⟨rfl, hb1⟩
    obtain ⟨b1, q0, q1, q2, q3, q4, q5, q6⟩ := HoldC.of (boxed hb1)
    clear hb1
    go_wp2_with fail
    refine (HG.out z a HI.out _ (unbox b1)).mono ?_
    rintro e w2 ⟨rfl, hb2⟩
    have g2 := (Blk.new w _ _).keep (box_then b1 hb2) (by omega)
    have b2 := Lib.hid (unbox (box_then b1 hb2))
    clear hb2 b1 q0 q1 q2 q3 q4 q5 q6
    have q0 := g2.cell 0
    have q1 := g2.cell 1
    have q2 := g2.cell 2
    have q3 := g2.cell 3
    have q4 := g2.cell 4
    have q5 := g2.cell 5
    have q6 := g2.cell 6
    have f0 := g2.free 0
    go_wp2_with fail
    generalize (wrap64 (z.tmod 22 + 22)).tmod 22 = z2 at *
    refine (HG.out z2 a HI.out _ (b2.out.setCell (Nat.le_refl _) _)).mono ?_
    rintro e w3 ⟨rfl, hb3⟩
    have g3 : Blk w3 w.heap.size 25 #[.int .i64 z2, .int .i64 (a 0), .int .i64 (a 1), .int .i64 (a 2), .int .i64 (a 3), .slice P ps.length cp, .slice A gs.length ca] := (g2.put 0 (.int .i64 z2)).below hb3
    have b3 := Lib.hid (below_then (b2.out.setCell (Nat.le_refl _) _) hb3)
    clear q0 q1 q2 q3 q4 q5 q6 f0 g2 b2 hb3
    have q0 := g3.cell 0
    have q1 := g3.cell 1
    have q2 := g3.cell 2
    have q3 := g3.cell 3
    have q4 := g3.cell 4
    have q5 := g3.cell 5
    have q6 := g3.cell 6
    have f1 := g3.free 1
    have f2 := g3.free 2
    have f3 := g3.free 3
    have f4 := g3.free 4
    go_wp2_with fail
    refine (HG.out z2 (aTwo a) (fun j hj => by
      unfold aTwo
      split
      · exact HI.out 0 (by omega)
      · split
        · exact HI.out 1 (by omega)
        · omega) _ ((((b3.out.setCell (Nat.le_refl _) _).setCell (Nat.le_refl _) _).setCell (Nat.le_refl _) _).setCell (Nat.le_refl _) _)).mono ?_
    rintro e w4 ⟨rfl, hb4⟩
    have b4 := Lib.hid (below_then ((((b3.out.setCell (Nat.le_refl _) _).setCell (Nat.le_refl _) _).setCell (Nat.le_refl _) _).setCell (Nat.le_refl _) _) hb4)
    clear hb4
    go_wp2_with fail
    refine (HW.out _ b4.out).mono ?_
    rintro e w5 ⟨rfl, hb5⟩
    go_wp2_with fail
    go_ret
    exact ⟨rfl, below_then b4.out hb5⟩
end Go.Proofs.YtokkbboahajbhaaDoor

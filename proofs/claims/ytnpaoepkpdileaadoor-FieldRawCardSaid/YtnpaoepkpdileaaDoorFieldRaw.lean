/- The walk of the law FieldRaw. -/
import Derived.Test.YtnpaoepkpdileaaDoorFieldAgree
namespace Go.Proofs.YtnpaoepkpdileaaDoor
open Go.RowKit
attribute [local irreducible] ctxC lightX
set_option maxRecDepth 100000 in
set_option maxHeartbeats 8000000 in
theorem fieldRaw_walk (fd op nu : Int) (tx : ByteArray) (ot l : Int) (c : Ctx) (r : CRest) (A : Option Addr) (n cp : Nat) (L : List (Itm × IRest)) (hn : n = L.length) (hm : n ≤ maxLen) (h1 : c.exe.size ≤ maxLen) (h2 : c.comm.size ≤ maxLen) (hi : I64 nu) (hx : tx.size ≤ maxLen) (w : World) (hL : ItemsAt w w.heap.size A L) (hg : Globs w) :
    Calls Tryd.prog 3 #[testV fd op nu tx ot, .int .i64 l, ctxV c r (.slice A n cp)] w fun e w' => e = .returned (.bool true) ∧ Below w.heap.size w w' := by
  obtain ⟨hT, hC, hB, hS⟩ := boxTC w fd op nu tx ot c r (.slice A n cp)
  have LI := Lib.hid (fun W => light12 c r A n cp hm h1 h2 W)
  have AW := Lib.hid (fun (W : World) (h : Below w.heap.size w W) => awake12 W (hg.below h).fn (hg.below h).fo (hg.below h).tb (hg.below h).pw)
  have AG := Lib.hid (fun (h8 : n ≤ 8) (f' o' : Int) (x' : ByteArray) (hx' : x'.size ≤ maxLen) (t' : Int) (W : World) (h : Below w.heap.size w W) => agrees12 f' o' nu x' t' l c r A n cp L hn (by omega) hi hx' W ((hL.keep h (Nat.le_refl _)).more h.size) (hg.below h))
  have HX := Lib.hid hx
  unfold maxLen at hx
  have HT := Lib.hid hT
  have HC := Lib.hid hC
  have HB := Lib.hid hB
  clear hT hC hB hS hn hm h1 h2 hi hL hg
  go_enter Tryd.func3, Tryd.ntmps3
  go_wp2_with (((with_reducible refine load_blk ?_ 35 (.tmp 5) ?_ HC.out ?_ _ Tryd.underlying35 ?_ ?_ ?_); (iterate 4 rfl); exact ctx_sz _ _ _))
  generalize (w.alloc (.cells (testC fd op nu tx ot) 23)).alloc (.cells (ctxC c r (.slice A n cp)) 35) = W at *
  refine (LI.out _).mono ?_
  rintro e w1 ⟨rfl, hb⟩
  have hT1 : TestB w1 w.heap.size fd op nu tx ot := HT.out.below hb
  have HC1 := Lib.hid (show CtxB w1 (w.heap.size + 1) c r (.slice A n cp) from HC.out.below hb)
  have HB1 := Lib.hid (HB.out.trans (hb.mono HB.out.size))
  have HT1 := Lib.hid hT1
  clear hb HT HC HB LI
  obtain ⟨q0, q1, q2, q3, q4⟩ := test_cells hT1
  clear hT1
  cases hl : lightX c n
  · clear hl
    go_wp2_with fail
    refine (AW.out _ HB1.out).mono ?_
    rintro e w2 ⟨rfl, hb⟩
    have HB2 := Lib.hid (below_then HB1.out hb)
    go_wp2_with fail
    go_ret
    exact ⟨rfl, HB2.out⟩
  · have h8 : n ≤ 8 := by unfold lightX at hl; simp at hl; exact hl.1
    clear hl
    by_cases h7 : 700 < tx.size
    · go_wp2_with fail
      refine (AW.out _ HB1.out).mono ?_
      rintro e w2 ⟨rfl, hb⟩
      have HB2 := Lib.hid (below_then HB1.out hb)
      go_wp2_with fail
      go_ret
      exact ⟨rfl, HB2.out⟩
    · go_wp2_with (((with_reducible refine load_blk ?_ 35 (.tmp 5) ?_ HC1.out ?_ _ Tryd.underlying35 ?_ ?_ ?_); (iterate 4 rfl); exact ctx_sz _ _ _))
      refine (AG.out h8 _ _ _ HX.out _ _ HB1.out).mono ?_
      rintro e w2 ⟨rfl, hb⟩
      have hT2 : TestB w2 w.heap.size fd op nu tx ot := HT1.out.below hb
      have HC2 := Lib.hid (show CtxB w2 (w.heap.size + 1) c r (.slice A n cp) from HC1.out.below hb)
      have HB2 := Lib.hid (below_then HB1.out hb)
      have HT2 := Lib.hid hT2
      clear hb HT1 HC1 HB1 q0 q1 q2 q3 q4
      obtain ⟨q0, q1, q2, q3, q4⟩ := test_cells hT2
      have f0 := hT2.free 0
      have f1 := hT2.free 1
      clear hT2
      have HCS := Lib.hid (fun (u v : Value) => show CtxB ((w2.setCell ⟨w.heap.size, 0, none⟩ u).setCell ⟨w.heap.size, 1, none⟩ v) (w.heap.size + 1) c r (.slice A n cp) from (HC2.out.put_other u (by show w.heap.size + 1 ≠ w.heap.size; omega)).put_other v (by show w.heap.size + 1 ≠ w.heap.size; omega))
      have AG2 := Lib.hid (fun (f' o' : Int) => (AG.out h8 f' o' tx HX.out ot ((w2.setCell ⟨w.heap.size, 0, none⟩ (.int .i64 f')).setCell ⟨w.heap.size, 1, none⟩ (.int .i64 o')) ((HB2.out.setCell (Nat.le_refl _) _).setCell (Nat.le_refl _) _)).mono (R' := fun e w3 => e = .returned (.bool true) ∧ Below w.heap.size w w3 ∧ ∃ f' o', Blk w3 w.heap.size 23 (testC f' o' nu tx ot) ∧ Blk w3 (w.heap.size + 1) 35 (ctxC c r (.slice A n cp))) fun e w3 h => ⟨h.1, below_then ((HB2.out.setCell (Nat.le_refl _) _).setCell (Nat.le_refl _) _) h.2, f', o', Blk.below (show Blk _ w.heap.size 23 (testC f' o' nu tx ot) from (HT2.out.put 0 (.int .i64 f')).put 1 (.int .i64 o')) h.2, Blk.below (HCS.out _ _) h.2⟩)
      go_wp2_with ((with_reducible refine load_blk ?_ 35 (.tmp 5) ?_ (HCS.out _ _) ?_ _ Tryd.underlying35 ?_ ?_ ?_); (iterate 4 rfl); exact ctx_sz _ _ _)
      refine (AG2.out _ _).mono ?_
      rintro e w3 ⟨rfl, hb3, f', o', hT3, hC3⟩
      have HB3 := Lib.hid hb3
      have HC3 := Lib.hid hC3
      clear q0 q1 q2 q3 q4 f0 f1 HCS HC2 HB2 HT2 AG2 hb3 hC3
      obtain ⟨q0, q1, q2, q3, q4⟩ := test_cells hT3
      have f4 := hT3.free 4
      have f3 := hT3.free 3
      clear hT3
      have HCS := Lib.hid (fun (u v : Value) => show CtxB ((w3.setCell ⟨w.heap.size, 4, none⟩ u).setCell ⟨w.heap.size, 3, none⟩ v) (w.heap.size + 1) c r (.slice A n cp) from (HC3.out.put_other u (by show w.heap.size + 1 ≠ w.heap.size; omega)).put_other v (by show w.heap.size + 1 ≠ w.heap.size; omega))
      go_wp2_with ((with_reducible refine load_blk ?_ 35 (.tmp 5) ?_ (HCS.out _ _) ?_ _ Tryd.underlying35 ?_ ?_ ?_); (iterate 4 rfl); exact ctx_sz _ _ _)
      refine (AG.out h8 _ _ _ (by decide) _ _ ((HB3.out.setCell (Nat.le_refl _) _).setCell (Nat.le_refl _) _)).mono ?_
      rintro e w4 ⟨rfl, hb⟩
      have HB4 := Lib.hid (below_then ((HB3.out.setCell (Nat.le_refl _) _).setCell (Nat.le_refl _) _) hb)
      clear hb
      go_wp2_with fail
      refine (AW.out _ HB4.out).mono ?_
      rintro e w5 ⟨rfl, hb⟩
      have HB5 := Lib.hid (below_then HB4.out hb)
      go_wp2_with fail
      go_ret
      exact ⟨rfl, HB5.out⟩
end Go.Proofs.YtnpaoepkpdileaaDoor

/- light and agrees of the laws on fields. -/
import Derived.Test.YtnpaoepkpdileaaDoorFieldREv
import Derived.Test.YtnpaoepkpdileaaDoorFieldRFmt
import Derived.Test.YtnpaoepkpdileaaDoorFieldAwake
import Derived.Deep.RegionHeld3
namespace Go.Proofs.YtnpaoepkpdileaaDoor
open Go.RowKit
/-- What the walks read of the variables. -/
structure Globs (w : World) : Prop where
  fn : FNames w
  fo : FOps w
  tb : Tab w
  pw : Pow w
theorem Globs.below {w w' : World} (h : Globs w) (hb : Below w.heap.size w w') : Globs w' := ⟨h.fn.below hb, h.fo.below hb, h.tb.below hb (Nat.le_refl _), h.pw.below hb (Nat.le_refl _)⟩
theorem holdT {W w' : World} {B g : Nat} {fd op nu : Int} {tx : ByteArray} {ot : Int} (hT : TestB W g fd op nu tx ot) (hg : g < B) (hb : Below B W w') : Below B W w' ∧ (loadVar 23 ⟨g, 0, none⟩).run Tryd.prog w' = .ok (.agg (testC fd op nu tx ot)) w' := ⟨hb, ld_test (hT.keep hb hg)⟩
theorem holdTC {W w' : World} {B g g2 : Nat} {fd op nu : Int} {tx : ByteArray} {ot : Int} {c : Ctx} {r : CRest} {it : Value} (hT : TestB W g fd op nu tx ot) (hC : CtxB W g2 c r it) (hg : g < B) (hg2 : g2 < B) (hb : Below B W w') : Below B W w' ∧ (loadVar 23 ⟨g, 0, none⟩).run Tryd.prog w' = .ok (.agg (testC fd op nu tx ot)) w' ∧ (loadVar 35 ⟨g2, 0, none⟩).run Tryd.prog w' = .ok (.agg (ctxC c r it)) w' := ⟨hb, ld_test (hT.keep hb hg), ld_ctx (hC.keep hb hg2)⟩
theorem two_then {W wr w1 : World} {B : Nat} (h : Below B W wr) (hB : B ≤ W.heap.size) (k : Below wr.heap.size wr w1) : Below B W w1 := h.trans (k.mono (by have := h.size; omega))
def lightX (c : Ctx) (n : Nat) : Bool := decide (n ≤ 8) && (decide (c.exe.size ≤ 700) && decide (c.comm.size ≤ 700))
attribute [local irreducible] ctxC
set_option maxHeartbeats 1000000 in
theorem light12 (c : Ctx) (r : CRest) (A : Option Addr) (n cp : Nat) (hn : n ≤ maxLen) (h1 : c.exe.size ≤ maxLen) (h2 : c.comm.size ≤ maxLen) (w : World) : Calls Tryd.prog 10 #[ctxV c r (.slice A n cp)] w fun e w' => e = .returned (.bool (lightX c n)) ∧ Below w.heap.size w w' := by
  unfold maxLen at hn h1 h2
  have HC : CtxB (w.alloc (.cells (ctxC c r (.slice A n cp)) 35)) w.heap.size c r (.slice A n cp) := Blk.new w _ _
  have HB := Lib.hid ((Below.refl w.heap.size w).alloc (Nat.le_refl _) (.cells (ctxC c r (.slice A n cp)) 35))
  have qi := HC.items
  have qe := HC.exe
  have qc := HC.comm
  clear HC
  by_cases c1 : n ≤ 8
  · by_cases c2 : c.exe.size ≤ 700
    · by_cases c3 : c.comm.size ≤ 700
      · have HE := Lib.hid (show lightX c n = true by unfold lightX; simp [c1, c2, c3])
        go_enter Tryd.func10, Tryd.ntmps10
        go_wp2_with fail
        go_ret
        exact ⟨ret_b (by first | exact HE.out.symm | (rw [HE.out]; simp <;> omega)), HB.out⟩
      · have HE := Lib.hid (show lightX c n = false by unfold lightX; simp [c3])
        go_enter Tryd.func10, Tryd.ntmps10
        go_wp2_with fail
        go_ret
        exact ⟨ret_b (by first | exact HE.out.symm | (rw [HE.out]; simp <;> omega)), HB.out⟩
    · have HE := Lib.hid (show lightX c n = false by unfold lightX; simp [c2])
      go_enter Tryd.func10, Tryd.ntmps10
      go_wp2_with fail
      go_ret
      exact ⟨ret_b (by first | exact HE.out.symm | (rw [HE.out]; simp <;> omega)), HB.out⟩
  · have HE := Lib.hid (show lightX c n = false by unfold lightX; simp [c1])
    go_enter Tryd.func10, Tryd.ntmps10
    go_wp2_with fail
    go_ret
    exact ⟨ret_b (by first | exact HE.out.symm | (rw [HE.out]; simp <;> omega)), HB.out⟩
attribute [local irreducible] checkF anyE testS evalF evalP
attribute [-go_sem] loadVar
attribute [local go_sem] lv3 lv9 lv33
set_option maxRecDepth 100000 in
set_option maxHeartbeats 8000000 in
theorem agrees12 (fd op nu : Int) (tx : ByteArray) (ot l : Int) (c : Ctx) (r : CRest) (A : Option Addr) (n cp : Nat) (L : List (Itm × IRest)) (hn : n = L.length) (hlen : n ≤ 1000000) (hi : I64 nu) (hx : tx.size ≤ maxLen) (w : World) (hL : ItemsAt w w.heap.size A L) (hg : Globs w) :
    Calls Tryd.prog 12 #[testV fd op nu tx ot, .int .i64 l, ctxV c r (.slice A n cp)] w fun e w' => e = .returned (.bool true) ∧ Below w.heap.size w w' := by
  obtain ⟨hT, hC, hB, hS⟩ := boxTC w fd op nu tx ot c r (.slice A n cp)
  have VF := Lib.hid (fun (W : World) (h : Below w.heap.size w W) => vformatF fd op nu tx ot hi hx W (hg.below h).fn (hg.below h).fo (hg.below h).tb (hg.below h).pw)
  have RF := Lib.hid (fun (W : World) => rformatF fd op nu tx ot hi hx W)
  have VC := Lib.hid (fun l (W : World) => vcheckF fd op nu tx ot l hx W)
  have RC := Lib.hid (fun l (W : World) => rcheckF fd op nu tx ot l hx W)
  have VE := Lib.hid (fun (W : World) (h : Below w.heap.size w W) => vevalF c r A n cp L hn hlen fd op nu tx ot hx W ((hL.keep h (Nat.le_refl _)).more h.size))
  have RE := Lib.hid (fun (W : World) (h : Below w.heap.size w W) => revalF c r A n cp L hn hlen fd op nu tx ot hx W ((hL.keep h (Nat.le_refl _)).more h.size))
  simp only [eval_same] at VE
  have HT := Lib.hid hT
  have HC := Lib.hid hC
  have HB := Lib.hid hB
  have HS := Lib.hid hS
  have hlT0 := ld_test hT
  clear hg hi hL hT hC hB hS hn hlen
  generalize evalF c (L.map (·.1)) fd op nu tx ot = ev at *
  go_enter Tryd.func12, Tryd.ntmps12
  go_wp2_with fail
  generalize (w.alloc (.cells (testC fd op nu tx ot) 23)).alloc (.cells (ctxC c r (.slice A n cp)) 35) = W at *
  have UN := Lib.hid (fun (x : World) (h : Below (w.heap.size + 1 + 1) W x) => HB.out.trans (h.mono (by omega)))
  have HSL := Lib.hid (show w.heap.size + 1 + 1 ≤ W.heap.size by have := HS.out; omega)
  have HLD := Lib.hid (fun (x : World) (h : Below (w.heap.size + 1 + 1) W x) => holdT HT.out (by omega) h)
  have HLC := Lib.hid (fun (x : World) (h : Below (w.heap.size + 1 + 1) W x) => holdTC HT.out HC.out (by omega) (by omega) h)
  refine (VF.out _ HB.out).mono ?_
  rintro e w1 ⟨rfl, hb1⟩
  have b1 := two_then (Below.refl _ _) HSL.out hb1
  obtain ⟨_, lT1⟩ := HLD.out _ b1
  clear hb1 VF hlT0
  go_wp2_with fail
  refine (RF.out _).mono ?_
  rintro e w2 ⟨rfl, hb2⟩
  have B2 := Lib.hid (two_then b1 HSL.out hb2)
  clear hb2 RF lT1 b1
  generalize testS fd op nu tx ot = ts at *
  generalize anyE fd op nu tx ot = te at *
  go_wp2_with fail
  go_region_held3 (fun w' => Below (w.heap.size + 1 + 1) W w' ∧ (loadVar 23 ⟨w.heap.size, 0, none⟩).run Tryd.prog w' = .ok (.agg (testC fd op nu tx ot)) w')
    (first | exact HLD.out _ B2.out.drew | exact HLD.out _ (two_then (And.left (by assumption)) HSL.out hb))
    (first | (go_at_call 31; refine (VC.out _ _).mono ?_; rintro e w3 ⟨rfl, hb⟩) | (go_at_call 32; refine (RC.out _ _).mono ?_; rintro e w3 ⟨rfl, hb⟩))
  all_goals
    rename_i w4 hS4
    have B4 := Lib.hid hS4.1
    clear hS4 B2
    go_wp2_with fail
    go_loopw [11] (fun i wr => ∃ k : Nat, k ≤ 7 ∧ i = .int .i64 (k : Int) ∧ Below (w.heap.size + 1 + 1) W wr) (fun i _ => 7 - (intOf i).toNat)
    case atStart => exact ⟨0, by omega, rfl, B4.out⟩
    case round =>
      obtain ⟨k, hk, rfl, hbr⟩ := hrel
      have BR := Lib.hid hbr
      clear hbr
      by_cases hlt : k < 7
      · go_wp2_with fail
        go_region_held3 (fun w' => Below (w.heap.size + 1 + 1) W w' ∧ (loadVar 23 ⟨w.heap.size, 0, none⟩).run Tryd.prog w' = .ok (.agg (testC fd op nu tx ot)) w')
          (first | exact HLD.out _ BR.out.drew | exact HLD.out _ (two_then (And.left (by assumption)) HSL.out hb))
          (first | (go_at_call 31; refine (VC.out _ _).mono ?_; rintro e w3 ⟨rfl, hb⟩) | (go_at_call 32; refine (RC.out _ _).mono ?_; rintro e w3 ⟨rfl, hb⟩))
        all_goals
          go_wp2_with fail
          go_roundw
          case rel => exact ⟨k + 1, by omega, by go_num, And.left (by assumption)⟩
          case measure => simp [intOf]; omega
      · go_wp2_with fail
        go_region_held3 (fun w' => Below (w.heap.size + 1 + 1) W w' ∧ (loadVar 23 ⟨w.heap.size, 0, none⟩).run Tryd.prog w' = .ok (.agg (testC fd op nu tx ot)) w' ∧ (loadVar 35 ⟨w.heap.size + 1, 0, none⟩).run Tryd.prog w' = .ok (.agg (ctxC c r (.slice A n cp))) w')
          (first | exact HLC.out _ BR.out.drew | exact HLC.out _ (two_then (And.left (by assumption)) HSL.out hb))
          (first | (go_at_call 18; refine (VE.out _ (UN.out _ (And.left (by assumption)))).mono ?_; rintro e w3 ⟨rfl, hb⟩) | (go_at_call 33; refine (RE.out _ (UN.out _ (And.left (by assumption)))).mono ?_; rintro e w3 ⟨rfl, hb⟩))
        all_goals
          go_wp2_with fail
          go_ret
          exact ⟨ret_b (by simp), UN.out _ (And.left (by assumption))⟩
end Go.Proofs.YtnpaoepkpdileaaDoor

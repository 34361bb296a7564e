/- Copy of the reference. -/
import Derived.Test.YtokkbboahajbhaaDoorCallSame2
import Derived.Test.YtokkbboahajbhaaDoorSrcCall
namespace Go.Proofs.YtokkbboahajbhaaDoor
open Go.RowKit
/-- A call whose lists are its own, in different blocks. -/
def CopyPost (z : Int) (a : Nat → Int) (ps gs : List ByteArray) (w : World) (e : Ending) (w' : World) : Prop := ∃ vp va : Value, e = .returned (.agg #[.int .i64 z, .int .i64 (a 0), .int .i64 (a 1), .int .i64 (a 2), .int .i64 (a 3), vp, va]) ∧ OwnS w' w.heap.size vp ps ∧ OwnS w' w.heap.size va gs ∧ (∀ r, vp.ownBlock = some r → va.ownBlock ≠ some r) ∧ Below w.heap.size w w'
theorem Blk.grown2 {w w' : World} {g : Nat} {t : TypeId} {cs : Array Value} (h : Blk w g t cs) {row : Option Nat} (hg : w.grownBy w' row) (hr : ∀ r, row = some r → g < r) : Blk w' g t cs := h.grown hg (fun e => by have := hr g e; omega)
set_option maxRecDepth 100000 in
set_option maxHeartbeats 4000000 in
theorem rcopy (z : Int) (a : Nat → Int) (P : Option Addr) (cp : Nat) (A : Option Addr) (ca : Nat) (ps gs : List ByteArray) (w : World) (B : Nat) (hB : B ≤ w.heap.size) (hP : StrsAt w B P ps) (hA : StrsAt w B A gs) (l1 : ps.length ≤ 1000) (l2 : gs.length ≤ 1000) :
    Calls Tryd.prog 14 #[callV z a P ps.length cp A gs.length ca] w (CopyPost z a ps gs w) := by
  have hal : Below w.heap.size w ((w.alloc (callO z a P ps.length cp A gs.length ca)).alloc (.cells zeroC 25)) := ((Below.refl _ _).alloc (Nat.le_refl _) _).alloc (by simp) _
  have G0 : Blk ((w.alloc (callO z a P ps.length cp A gs.length ca)).alloc (.cells zeroC 25)) w.heap.size 25 #[.int .i64 z, .int .i64 (a 0), .int .i64 (a 1), .int .i64 (a 2), .int .i64 (a 3), .slice P ps.length cp, .slice A gs.length ca] := (Blk.new w _ _).alloc _
  have R0 : Blk ((w.alloc (callO z a P ps.length cp A gs.length ca)).alloc (.cells zeroC 25)) (w.heap.size + 1) 25 zeroC := by
    have := Blk.new (w.alloc (callO z a P ps.length cp A gs.length ca)) zeroC 25
    simpa using this
  have hs0 : ((w.alloc (callO z a P ps.length cp A gs.length ca)).alloc (.cells zeroC 25)).heap.size = w.heap.size + 2 := by simp
  have HS0 := Lib.hid hs0
  have HP := Lib.hid (hP.keep hal hB)
  have HA := Lib.hid (hA.keep hal hB)
  have hle0 : w.heap.size + 2 ≤ ((w.alloc (callO z a P ps.length cp A gs.length ca)).alloc (.cells zeroC 25)).heap.size := by omega
  clear hP hA hs0
  go_enter Tryd.func14, Tryd.ntmps14
  go_wp2_with (first
    | (at_builtin; refine wpList_append_strs rfl (.const (.slice none 0 0)) (.tmp 4) rfl (w.heap.size + 2) (.slice none 0 0) [] rfl (OwnS.nil _ _) B P ps.length cp ps rfl rfl HP.out (by simp; omega) hle0 ?_; intro v1 w1 ho1 hg1 hat1; obtain ⟨A1, c1, hv1, hS1⟩ := ho1.strs; subst hv1; have G1 := G0.grown2 hg1 (fun r hr => by cases hr); have R1 := R0.grown2 hg1 (fun r hr => by cases hr); have q5 := G1.cell 5; have f5 := G1.free 5; have q6 := G1.cell 6; have HO1 := Lib.hid ho1; have HG1 := Lib.hid hg1; clear ho1 hg1 hat1 hS1)
    | (at_builtin; refine wpList_append_strs rfl (.const (.slice none 0 0)) (.tmp 8) rfl (w.heap.size + 2) (.slice none 0 0) [] rfl (OwnS.nil _ _) B A gs.length ca gs rfl rfl ?_ (by simp; omega) ?_ ?_; exact (HA.out.grown HG1.out (by omega) (fun r hr => by cases hr)).setCell (p := ⟨w.heap.size, 5, none⟩) hB _; (have := HG1.out.size; simp at this ⊢; omega); intro v2 w2 ho2 hg2 hat2; obtain ⟨A2, c2, hv2, hS2⟩ := ho2.strs; subst hv2; have G2 := (G1.put 5 (.slice A1 ps.length c1)).grown2 hg2 (fun r hr => by cases hr); have R2 := (R1.put_other (p := ⟨w.heap.size, 5, none⟩) (.slice A1 ps.length c1) (by show w.heap.size + 1 ≠ w.heap.size; omega)).grown2 hg2 (fun r hr => by cases hr); have d0 := G2.cell 0; have d1 := G2.cell 1; have d2 := G2.cell 2; have d3 := G2.cell 3; have d4 := G2.cell 4; have d5 := G2.cell 5; have d6 := G2.cell 6; have e6 := G2.free 6; have r0 := R2.cell 0; have s0 := R2.free 0; have r1 := R2.cell 1; have s1 := R2.free 1; have r2 := R2.cell 2; have s2 := R2.free 2; have r3 := R2.cell 3; have s3 := R2.free 3; have r4 := R2.cell 4; have s4 := R2.free 4; have r5 := R2.cell 5; have s5 := R2.free 5; have r6 := R2.cell 6; have s6 := R2.free 6; have HO2 := Lib.hid ho2; have HG2 := Lib.hid hg2; clear q5 q6 f5; have HAT2 := Lib.hid hat2; clear ho2 hg2 hat2 hS2))
  have R3 := R2.put_other (p := ⟨w.heap.size, 6, none⟩) (.slice A2 gs.length c2) (by show w.heap.size + 1 ≠ w.heap.size; omega)
  have o1 : OwnS w1 (w.heap.size + 2) (.slice A1 ps.length c1) ps := HO1.out
  have o1a := OwnS.far (v2 := .slice none 0 0) (o1.setCell (p := ⟨w.heap.size, 5, none⟩) (by show w.heap.size < w.heap.size + 2; omega) (.slice A1 ps.length c1)) HG2.out (fun r _ => by intro h; cases h)
  have o1b := o1a.setCell (p := ⟨w.heap.size, 6, none⟩) (by show w.heap.size < w.heap.size + 2; omega) (.slice A2 gs.length c2)
  have o2 : OwnS w2 (w.heap.size + 2) (.slice A2 gs.length c2) gs := HO2.out
  have o2a := o2.setCell (p := ⟨w.heap.size, 6, none⟩) (by show w.heap.size < w.heap.size + 2; omega) (.slice A2 gs.length c2)
  have b1 : Below w.heap.size w w1 := hal.grown HG1.out (by omega) (fun k hk => by cases hk)
  have b1s := b1.setCell (p := ⟨w.heap.size, 5, none⟩) (Nat.le_refl _) (.slice A1 ps.length c1)
  have b2 := (b1s.grown HG2.out (by have := b1.size; simp; omega) (fun k hk => by cases hk)).setCell (p := ⟨w.heap.size, 6, none⟩) (Nat.le_refl _) (.slice A2 gs.length c2)
  refine bodyPost_ret (call_ret Tryd.func14 rfl _ _ (w.heap.size + 1) _ rfl (((((((R3.put 0 (.int .i64 z)).put 1 (.int .i64 (a 0))).put 2 (.int .i64 (a 1))).put 3 (.int .i64 (a 2))).put 4 (.int .i64 (a 3))).put 5 (.slice A1 ps.length c1)).put 6 (.slice A2 gs.length c2)) rfl) rfl ?_
  refine ⟨.slice A1 ps.length c1, .slice A2 gs.length c2, rfl, (((((((o1b.setCell (p := ⟨w.heap.size + 1, 0, none⟩) (by show w.heap.size + 1 < w.heap.size + 2; omega) (.int .i64 z)).setCell (p := ⟨w.heap.size + 1, 1, none⟩) (by show w.heap.size + 1 < w.heap.size + 2; omega) (.int .i64 (a 0))).setCell (p := ⟨w.heap.size + 1, 2, none⟩) (by show w.heap.size + 1 < w.heap.size + 2; omega) (.int .i64 (a 1))).setCell (p := ⟨w.heap.size + 1, 3, none⟩) (by show w.heap.size + 1 < w.heap.size + 2; omega) (.int .i64 (a 2))).setCell (p := ⟨w.heap.size + 1, 4, none⟩) (by show w.heap.size + 1 < w.heap.size + 2; omega) (.int .i64 (a 3))).setCell (p := ⟨w.heap.size + 1, 5, none⟩) (by show w.heap.size + 1 < w.heap.size + 2; omega) (.slice A1 ps.length c1)).setCell (p := ⟨w.heap.size + 1, 6, none⟩) (by show w.heap.size + 1 < w.heap.size + 2; omega) (.slice A2 gs.length c2)).mono (by omega), (((((((o2a.setCell (p := ⟨w.heap.size + 1, 0, none⟩) (by show w.heap.size + 1 < w.heap.size + 2; omega) (.int .i64 z)).setCell (p := ⟨w.heap.size + 1, 1, none⟩) (by show w.heap.size + 1 < w.heap.size + 2; omega) (.int .i64 (a 0))).setCell (p := ⟨w.heap.size + 1, 2, none⟩) (by show w.heap.size + 1 < w.heap.size + 2; omega) (.int .i64 (a 1))).setCell (p := ⟨w.heap.size + 1, 3, none⟩) (by show w.heap.size + 1 < w.heap.size + 2; omega) (.int .i64 (a 2))).setCell (p := ⟨w.heap.size + 1, 4, none⟩) (by show w.heap.size + 1 < w.heap.size + 2; omega) (.int .i64 (a 3))).setCell (p := ⟨w.heap.size + 1, 5, none⟩) (by show w.heap.size + 1 < w.heap.size + 2; omega) (.slice A1 ps.length c1)).setCell (p := ⟨w.heap.size + 1, 6, none⟩) (by show w.heap.size + 1 < w.heap.size + 2; omega) (.slice A2 gs.length c2)).mono (by omega), fun r hr e => ?_, (((((((b2.setCell (p := ⟨w.heap.size + 1, 0, none⟩) (by show w.heap.size ≤ w.heap.size + 1; omega) (.int .i64 z)).setCell (p := ⟨w.heap.size + 1, 1, none⟩) (by show w.heap.size ≤ w.heap.size + 1; omega) (.int .i64 (a 0))).setCell (p := ⟨w.heap.size + 1, 2, none⟩) (by show w.heap.size ≤ w.heap.size + 1; omega) (.int .i64 (a 1))).setCell (p := ⟨w.heap.size + 1, 3, none⟩) (by show w.heap.size ≤ w.heap.size + 1; omega) (.int .i64 (a 2))).setCell (p := ⟨w.heap.size + 1, 4, none⟩) (by show w.heap.size ≤ w.heap.size + 1; omega) (.int .i64 (a 3))).setCell (p := ⟨w.heap.size + 1, 5, none⟩) (by show w.heap.size ≤ w.heap.size + 1; omega) (.slice A1 ps.length c1)).setCell (p := ⟨w.heap.size + 1, 6, none⟩) (by show w.heap.size ≤ w.heap.size + 1; omega) (.slice A2 gs.length c2))⟩
  have hlt := (World.ownsRow.lt o1 r hr).2
  rcases HAT2.out with h | h
  · have h' : (Value.slice A2 gs.length c2).ownBlock = none := h
    rw [h'] at e; cases e
  · have h' : (Value.slice A2 gs.length c2).ownBlock = some (w1.setCell ⟨w.heap.size, 5, none⟩ (.slice A1 ps.length c1)).heap.size := h
    rw [h'] at e
    injection e with e
    simp at e
    omega
end Go.Proofs.YtokkbboahajbhaaDoor

/- The walk of the law CallDiffer. -/
import Derived.Test.YtokkbboahajbhaaDoorCallCopy
import Derived.Test.YtokkbboahajbhaaDoorCallAgree
namespace Go.Proofs.YtokkbboahajbhaaDoor
open Go.RowKit
/-- Block g holds a call whose lists read as ps and gs; they lie in blocks from lo on, the source's block s apart. -/
structure HasC (w : World) (g lo : Nat) (z : Int) (a : Nat → Int) (vp va : Value) (ps gs : List ByteArray) : Prop where
  blk : Blk w g 25 #[.int .i64 z, .int .i64 (a 0), .int .i64 (a 1), .int .i64 (a 2), .int .i64 (a 3), vp, va]
  rng : ∀ j, j < 4 → 0 ≤ a j ∧ a j ≤ 2000
  op : OwnS w lo vp ps
  og : OwnS w lo va gs
  lp : ps.length ≤ 2
  lg : gs.length ≤ 4
  sp : ∀ s ∈ ps, s.size ≤ 100
  sg : ∀ s ∈ gs, s.size ≤ 100
theorem OwnS.setOther {w : World} {lo : Nat} {v : Value} {L : List ByteArray} (h : OwnS w lo v L) {p : Addr} (hp : v.ownBlock ≠ some p.block) (u : Value) : OwnS (w.setCell p u) lo v L := ownsRow_setCell_other h hp u
theorem OwnS.put {w : World} {lo g c : Nat} {L : List ByteArray} (h : OwnS w lo (.slice (some ⟨g, 0, none⟩) L.length c) L) (k : Nat) (x : ByteArray) : OwnS (w.setCell ⟨g, k, none⟩ (.string x)) lo (.slice (some ⟨g, 0, none⟩) L.length c) (L.set k x) := by
  have := (World.ownsRow.stored h.out k (.string x)).1
  unfold OwnS
  simpa [List.map_set] using this
section
variable {w w' : World} {g lo : Nat} {z : Int} {a : Nat → Int} {vp va : Value} {ps gs : List ByteArray}
theorem HasC.below (h : HasC w g lo z a vp va ps gs) (hb : Below w.heap.size w w') : HasC w' g lo z a vp va ps gs := ⟨h.blk.below hb, h.rng, h.op.below hb, h.og.below hb, h.lp, h.lg, h.sp, h.sg⟩
theorem HasC.alloc (h : HasC w g lo z a vp va ps gs) (o : Obj) : HasC (w.alloc o) g lo z a vp va ps gs := h.below ((Below.refl _ _).alloc (Nat.le_refl _) _)
theorem HasC.only (h : HasC w g lo z a vp va ps gs) {s : Nat} (hg : w.grownBy w' (some s)) (h1 : s < lo) (h2 : g ≠ s) : HasC w' g lo z a vp va ps gs :=
  ⟨h.blk.grown hg (fun e => h2 (by injection e with e; exact e.symm)), h.rng, h.op.only hg h1, h.og.only hg h1, h.lp, h.lg, h.sp, h.sg⟩
theorem HasC.set (h : HasC w g lo z a vp va ps gs) {p : Addr} (hp : p.block < lo) (hne : g ≠ p.block) (u : Value) : HasC (w.setCell p u) g lo z a vp va ps gs :=
  ⟨h.blk.put_other u hne, h.rng, h.op.setCell hp u, h.og.setCell hp u, h.lp, h.lg, h.sp, h.sg⟩
theorem HasC.forms (h : HasC w g lo z a vp va ps gs) : ∃ P cp A ca, vp = .slice P ps.length cp ∧ va = .slice A gs.length ca ∧ StrsAt w w.heap.size P ps ∧ StrsAt w w.heap.size A gs := by
  obtain ⟨P, cp, e1, h1⟩ := h.op.strs
  obtain ⟨A, ca, e2, h2⟩ := h.og.strs
  exact ⟨P, cp, A, ca, e1, e2, h1, h2⟩
end
theorem zeroB_congr {m : Nat} {a a' : Nat → Int} (h : ∀ j, j < 4 → a j = a' j) : zeroB m a = zeroB m a' := by
  cases hz : zeroB m a'
  · rw [← Bool.not_eq_true]; intro h1
    have : zeroB m a' = true := zeroB_yes fun j h2 h3 => by rw [← h j h3]; exact zeroB_at h1 h2 h3
    rw [hz] at this; cases this
  · exact zeroB_yes fun j h2 h3 => by rw [h j h3]; exact zeroB_at hz h2 h3
theorem callS_congr {z z' : Int} {a a' : Nat → Int} {ps ps' gs gs' : List ByteArray} (h : EqC z z' a a' ps ps' gs gs') : callS z a ps gs = callS z' a' ps' gs' := by
  obtain ⟨rfl, h, rfl, rfl⟩ := h
  have he : callE z a ps gs = callE z a' ps gs := by unfold callE; rw [zeroB_congr h]
  unfold callS
  rw [he]
  split
  · rename_i h0
    have hm : (rowI z).nums ≤ 2 := by
      obtain ⟨c1, _⟩ := callE_zero h0
      rw [rowI_toNat c1]; exact (rowC_small _).1
    have : numsW (rowI z).nums a = numsW (rowI z).nums a' := by
      unfold numsW
      refine List.map_congr_left fun j hj => ?_
      have hj' : j < (rowI z).nums := by simpa using hj
      rw [h j (by omega)]
    rw [this]
  · rfl
attribute [local irreducible] callE callS
set_option maxRecDepth 100000 in
set_option maxHeartbeats 8000000 in
theorem callDiffer_walk (w : World) (A : Option Addr) (n c : Nat) (hn : (n : Int) ≤ 9223372036854775807)
    (hl : ∀ k, k < n → ∃ (ad : Addr) (z : Int), A = some ad ∧ ad.block < w.heap.size ∧ w.cell? (ad.add k) = some (.int .i64 z) ∧ -9223372036854775808 ≤ z ∧ z ≤ 9223372036854775807) (hc : Calls10 w) (hT : Tab w) (hW : Pow w) :
    Calls Tryd.prog 4 #[.slice A n c] w fun e w' => e = .returned (.bool true) ∧ Below w.heap.size w w' := by
  have HL := Lib.hid hl
  have HN := Lib.hid hn
  have HC := Lib.hid (fun (W : World) (h : Below w.heap.size w W) => hc.below h (Nat.le_refl _))
  have HT := Lib.hid (fun (W : World) (h : Below w.heap.size w W) => hT.below h (Nat.le_refl _))
  have HW := Lib.hid (fun (W : World) (h : Below w.heap.size w W) => hW.below h (Nat.le_refl _))
  clear hl hn hc hT hW
  go_enter Tryd.func4, Tryd.ntmps4
  go_wp2_with fail
  refine (src_new w A n c HN.out HL.out).mono ?_
  rintro e w1 ⟨rfl, hs1, hb1⟩
  have HS1 := Lib.hid hs1
  have hlt1 : w.heap.size < w1.heap.size := src_lt hs1
  clear hs1 HL HN
  go_wp2_with fail
  refine (src_call _ w.heap.size w.heap.size 0 HS1.out (by omega)).mono ?_
  rintro e w2 ⟨z, a, vp, va, ps, gs, rfl, hz, ha, l1, l2, z1, z2, o1, o2, hs2, hg2⟩
  have hb2 : Below w.heap.size w w2 := below_only hb1 hg2 (by omega) (Nat.le_refl _)
  have hlt2 : w1.heap.size ≤ w2.heap.size := hg2.size
  have hA0 : HasC (w2.alloc (.cells #[.int .i64 z, .int .i64 (a 0), .int .i64 (a 1), .int .i64 (a 2), .int .i64 (a 3), vp, va] 25)) w2.heap.size w1.heap.size z a vp va ps gs :=
    ⟨Blk.new w2 _ _, fun j hj => by have := ha j hj; omega, o1.alloc _, o2.alloc _, l1, l2, fun s hs => by have := z1 s hs; omega, fun s hs => by have := z2 s hs; omega⟩
  have HS2 := Lib.hid (hs2.alloc (.cells #[.int .i64 z, .int .i64 (a 0), .int .i64 (a 1), .int .i64 (a 2), .int .i64 (a 3), vp, va] 25))
  have hb3 := hb2.alloc (show w.heap.size ≤ w2.heap.size by omega) (.cells #[.int .i64 z, .int .i64 (a 0), .int .i64 (a 1), .int .i64 (a 2), .int .i64 (a 3), vp, va] 25)
  obtain ⟨P, cp, A', ca, e1, e2, f1, f2⟩ := hA0.forms
  have HF1 := Lib.hid f1
  have HF2 := Lib.hid f2
  have HA := Lib.hid ha
  have HZ1 := Lib.hid z1
  subst e1 e2
  clear hs2 hg2 hb2 HS1 hb1 o1 o2 z1 z2 f1 f2 ha
  go_wp2_with fail
  generalize hw3 : w2.alloc (.cells #[.int .i64 z, .int .i64 (a 0), .int .i64 (a 1), .int .i64 (a 2), .int .i64 (a 3), .slice P ps.length cp, .slice A' gs.length ca] 25) = w3 at *
  have hs3 : w2.heap.size < w3.heap.size := by rw [← hw3]; simp
  clear hw3
  refine (rcopy z a P cp A' ca ps gs _ w3.heap.size (Nat.le_refl _) HF1.out HF2.out (by omega) (by omega)).mono ?_
  rintro e w4 ⟨vp', va', rfl, o1', o2', hne', hb4⟩
  have hB0 : HasC (w4.alloc (.cells #[.int .i64 z, .int .i64 (a 0), .int .i64 (a 1), .int .i64 (a 2), .int .i64 (a 3), vp', va'] 25)) w4.heap.size w3.heap.size z a vp' va' ps gs :=
    ⟨Blk.new w4 _ _, fun j hj => by have := HA.out j hj; omega, o1'.alloc _, o2'.alloc _, l1, l2, hA0.sp, hA0.sg⟩
  have hon : w3.grownBy (w4.alloc (.cells #[.int .i64 z, .int .i64 (a 0), .int .i64 (a 1), .int .i64 (a 2), .int .i64 (a 3), vp', va'] 25)) (some w.heap.size) := only_alloc (only_below (World.grownBy.refl w3 _) hb4) _
  have HS4 := Lib.hid ((HS2.out.below hb4).alloc (.cells #[.int .i64 z, .int .i64 (a 0), .int .i64 (a 1), .int .i64 (a 2), .int .i64 (a 3), vp', va'] 25))
  have hs4 : w3.heap.size ≤ w4.heap.size := hb4.size
  have HNE := Lib.hid hne'
  have HVB := Lib.hid (show vp'.ownBlock ≠ some w4.heap.size from fun e => by have := (World.ownsRow.lt o1' _ e).2; omega)
  have HVA := Lib.hid (show va'.ownBlock ≠ some w4.heap.size from fun e => by have := (World.ownsRow.lt o2' _ e).2; omega)
  obtain ⟨Pb, cpb, Ab, cab, e1, e2, _, _⟩ := hB0.forms
  subst e1 e2
  clear o1' o2' hb4 HS2 hne'
  go_wp2_with fail
  generalize hw5 : w4.alloc (.cells #[.int .i64 z, .int .i64 (a 0), .int .i64 (a 1), .int .i64 (a 2), .int .i64 (a 3), .slice Pb ps.length cpb, .slice Ab gs.length cab] 25) = w5 at *
  have hs5 : w4.heap.size < w5.heap.size := by rw [← hw5]; simp
  clear hw5
  refine (src_n _ w.heap.size w.heap.size 200 _ HS4.out (by omega) (by omega) (by omega)).mono ?_
  rintro e w6 ⟨x, rfl, x0, x1, hs6, hg6⟩
  have hon6 := hon.trans hg6
  have hB6 := hB0.only hg6 (by omega) (by omega)
  have HS6 := Lib.hid hs6
  clear hon hB0 HS4 hs6 hg6
  go_upto_block 0 with (fail)
  go_cut [] (fun wx => ∃ (lo : Nat) (zb : Int) (ab : Nat → Int) (vb ub : Value) (pb gb : List ByteArray), HasC wx w4.heap.size lo zb ab vb ub pb gb ∧ w3.grownBy wx (some w.heap.size))
  case first =>
    have q5 := hB6.blk.cell 5
    by_cases h0 : x = 0
    · have t0 : (x == 0) = true := by simpa using h0
      clear h0
      go_wp2_with fail
      refine (src_call _ w.heap.size w.heap.size (200 + 1) HS6.out (by omega)).mono ?_
      rintro e w7 ⟨z3, a3, vp3, va3, ps3, gs3, rfl, hz3, ha3, m1, m2, n1, n2, o3, o4, hs7, hg7⟩
      have hon7 := hon6.trans hg7
      have hB7 := hB6.only hg7 (by omega) (by omega)
      have hlt6 := hB6.blk.lt
      obtain ⟨P3, c3, e3, _⟩ := o3.strs
      obtain ⟨A3, d3, e4, _⟩ := o4.strs
      subst e3 e4
      clear hs7 hg7 q5
      have q0 := hB7.blk.cell 0
      have f0 := hB7.blk.free 0
      have q1 := hB7.blk.cell 1
      have f1 := hB7.blk.free 1
      have q2 := hB7.blk.cell 2
      have f2 := hB7.blk.free 2
      have q3 := hB7.blk.cell 3
      have f3 := hB7.blk.free 3
      have q4 := hB7.blk.cell 4
      have f4 := hB7.blk.free 4
      have q5 := hB7.blk.cell 5
      have f5 := hB7.blk.free 5
      have q6 := hB7.blk.cell 6
      have f6 := hB7.blk.free 6
      go_wp2_with fail
      go_meet
      exact ⟨w6.heap.size, z3, a3, _, _, ps3, gs3, ⟨(((((((hB7.blk.put 0 (.int .i64 z3)).put 1 (.int .i64 (a3 0))).put 2 (.int .i64 (a3 1))).put 3 (.int .i64 (a3 2))).put 4 (.int .i64 (a3 3))).put 5 (.slice P3 ps3.length c3)).put 6 (.slice A3 gs3.length d3)), fun j hj => by have := ha3 j hj; omega, (((((((o3.setCell (p := ⟨w4.heap.size, 0, none⟩) hlt6 (.int .i64 z3)).setCell (p := ⟨w4.heap.size, 1, none⟩) hlt6 (.int .i64 (a3 0))).setCell (p := ⟨w4.heap.size, 2, none⟩) hlt6 (.int .i64 (a3 1))).setCell (p := ⟨w4.heap.size, 3, none⟩) hlt6 (.int .i64 (a3 2))).setCell (p := ⟨w4.heap.size, 4, none⟩) hlt6 (.int .i64 (a3 3))).setCell (p := ⟨w4.heap.size, 5, none⟩) hlt6 (.slice P3 ps3.length c3)).setCell (p := ⟨w4.heap.size, 6, none⟩) hlt6 (.slice A3 gs3.length d3)), (((((((o4.setCell (p := ⟨w4.heap.size, 0, none⟩) hlt6 (.int .i64 z3)).setCell (p := ⟨w4.heap.size, 1, none⟩) hlt6 (.int .i64 (a3 0))).setCell (p := ⟨w4.heap.size, 2, none⟩) hlt6 (.int .i64 (a3 1))).setCell (p := ⟨w4.heap.size, 3, none⟩) hlt6 (.int .i64 (a3 2))).setCell (p := ⟨w4.heap.size, 4, none⟩) hlt6 (.int .i64 (a3 3))).setCell (p := ⟨w4.heap.size, 5, none⟩) hlt6 (.slice P3 ps3.length c3)).setCell (p := ⟨w4.heap.size, 6, none⟩) hlt6 (.slice A3 gs3.length d3)), m1, m2, fun s hs => by have := n1 s hs; omega, fun s hs => by have := n2 s hs; omega⟩, (only_setCell (only_setCell (only_setCell (only_setCell (only_setCell (only_setCell (only_setCell hon7 (p := ⟨w4.heap.size, 0, none⟩) (.inr hs4) (.int .i64 z3)) (p := ⟨w4.heap.size, 1, none⟩) (.inr hs4) (.int .i64 (a3 0))) (p := ⟨w4.heap.size, 2, none⟩) (.inr hs4) (.int .i64 (a3 1))) (p := ⟨w4.heap.size, 3, none⟩) (.inr hs4) (.int .i64 (a3 2))) (p := ⟨w4.heap.size, 4, none⟩) (.inr hs4) (.int .i64 (a3 3))) (p := ⟨w4.heap.size, 5, none⟩) (.inr hs4) (.slice P3 ps3.length c3)) (p := ⟨w4.heap.size, 6, none⟩) (.inr hs4) (.slice A3 gs3.length d3))⟩
    · have t0 : (x == 0) = false := by simpa using h0
      by_cases h1 : x = 1
      · have t1 : (x == 1) = true := by simpa using h1
        clear h0 h1
        have q1 : w6.cell? ⟨w4.heap.size, 1, none⟩ = some (.int .i64 (a 0)) := hB6.blk.cell 1
        have ra := hB6.rng 0 (by omega)
        go_wp2_with fail
        go_region_law
          ((go_simp; go_at_call 15; refine (src_n _ w.heap.size w.heap.size (200 + 1) _ (by exact HS6.out.drew) (by omega) (by omega) (by omega)).mono ?_; rintro e w7 ⟨y, rfl, y0, y1, hs7, hg7⟩; have hB7 := HasC.only (w := w6.drew) ⟨hB6.blk, hB6.rng, hB6.op, hB6.og, hB6.lp, hB6.lg, hB6.sp, hB6.sg⟩ hg7 (by omega) (by omega); have qA : w7.cell? ⟨w4.heap.size, 1, none⟩ = some (.int .i64 (a 0)) := hB7.blk.cell 1; have fA := hB7.blk.free 1; have wr1 : IntKind.i64.wrap (a 0 + y) = a 0 + y := IntWalk.i64_in _ (by omega); go_simp))
        all_goals
          go_wp2_with fail
          go_meet
          exact ⟨w3.heap.size, z, setA a 0 (a 0 + y), _, _, ps, gs, ⟨hB7.blk.put 1 (.int .i64 (a 0 + y)), fun j hj => by
            unfold setA
            split
            · have := HA.out 0 (by omega); omega
            · exact hB7.rng j hj, hB7.op.setOther (p := ⟨w4.heap.size, 1, none⟩) HVB.out _, hB7.og.setOther (p := ⟨w4.heap.size, 1, none⟩) HVA.out _, hB7.lp, hB7.lg, hB7.sp, hB7.sg⟩, only_setCell (World.grownBy.trans (b := w6.drew) ⟨hon6.os, hon6.tape, hon6.output, hon6.size, hon6.block⟩ hg7) (p := ⟨w4.heap.size, 1, none⟩) (.inr hs4) _⟩
      · have t1 : (x == 1) = false := by simpa using h1
        by_cases h2 : x = 2
        · have t2 : (x == 2) = true := by simpa using h2
          clear h0 h1 h2
          by_cases hp0 : 0 < ps.length
          · obtain ⟨g9, c9, hv9⟩ := Joins.ownsRow_form hB6.op.out hp0
            injection hv9 with hv9a hv9b hv9c
            subst hv9a hv9c
            clear hv9b
            have q5' : w6.cell? ⟨w4.heap.size, 5, none⟩ = some (.slice (some ⟨g9, 0, none⟩) ps.length cpb) := hB6.blk.cell 5
            have qs : w6.cell? ⟨g9, 0, none⟩ = some (.string ps[0]) := World.ownsRow.cells hB6.op (g := g9) rfl 0 _ (by rw [List.getElem?_map, List.getElem?_eq_getElem hp0]; rfl)
            have hz0 := HZ1.out ps[0] (List.getElem_mem hp0)
            have hne9 : w4.heap.size ≠ g9 := fun e => HVB.out (by rw [e]; rfl)
            have hge9 : w3.heap.size ≤ g9 := hB6.op.ge g9 rfl
            have HN9 := Lib.hid (show Value.ownBlock (.slice Ab gs.length cab) ≠ some g9 from HNE.out g9 rfl)
            generalize hps : ps[0] = p0 at *
            have HM := Lib.hid (show (ps.map Value.string)[0]? = some (Value.string p0) by rw [List.getElem?_map, List.getElem?_eq_getElem hp0, hps]; rfl)
            clear hps
            go_wp2_with fail
            go_region_law
              ((go_simp; go_at_call 16; refine (src_text _ w.heap.size w.heap.size (200 + 1) (by exact HS6.out.drew) (by omega)).mono ?_; rintro e w7 ⟨y, rfl, hy, hs7, hg7⟩; have hB7 := HasC.only (w := w6.drew) ⟨hB6.blk, hB6.rng, hB6.op, hB6.og, hB6.lp, hB6.lg, hB6.sp, hB6.sg⟩ hg7 (by omega) (by omega); have qA : w7.cell? ⟨w4.heap.size, 5, none⟩ = some (.slice (some ⟨g9, 0, none⟩) ps.length cpb) := hB7.blk.cell 5; have qB : w7.cell? ⟨g9, 0, none⟩ = some (.string p0) := World.ownsRow.cells hB7.op (g := g9) rfl 0 _ HM.out; have fB := World.ownsRow.frozenAt hB7.op.out 0; have hcat : ¬ 9223372036854775807 < p0.size + y.size := (by omega); go_simp))
            all_goals
              go_wp2_with fail
              go_meet
              exact ⟨w3.heap.size, z, a, _, _, ps.set 0 (p0 ++ y), gs, ⟨hB7.blk.put_other (p := ⟨g9, 0, none⟩) _ hne9, hB7.rng, by simpa using hB7.op.put 0 (p0 ++ y), hB7.og.setOther (p := ⟨g9, 0, none⟩) HN9.out _, by simpa using hB7.lp, hB7.lg, fun s hs => by
                rcases List.mem_or_eq_of_mem_set hs with h | h
                · exact hB7.sp s h
                · rw [h, ByteArray.size_append]; omega, hB7.sg⟩, only_setCell (World.grownBy.trans (b := w6.drew) ⟨hon6.os, hon6.tape, hon6.output, hon6.size, hon6.block⟩ hg7) (p := ⟨g9, 0, none⟩) (.inr hge9) _⟩
          · have q5' : w6.cell? ⟨w4.heap.size, 5, none⟩ = some (.slice Pb ps.length cpb) := hB6.blk.cell 5
            go_wp2_with fail
            go_meet
            exact ⟨_, _, _, _, _, _, _, hB6, hon6⟩
        · have t2 : (x == 2) = false := by simpa using h2
          clear h0 h1 h2
          go_wp2_with fail
          go_meet
          exact ⟨_, _, _, _, _, _, _, hB6, hon6⟩
  case rest =>
    obtain ⟨lo, zb, ab, vb, ub, pb, gb, hB, hon⟩ := hcut
    clear hB6 hon6 HS6
    have hA := hA0.only hon (by omega) (by omega)
    have hbx : Below w.heap.size w wc := below_only hb3 hon (by omega) (Nat.le_refl _)
    obtain ⟨P2, cp2, A2, ca2, e1, e2, f1, f2⟩ := hA.forms
    injection e1 with e1a e1b e1c
    injection e2 with e2a e2b e2c
    subst e1a e1c e2a e2c
    obtain ⟨P3, cp3, A3, ca3, e3, e4, g1, g2⟩ := hB.forms
    subst e3 e4
    clear e1b e2b
    have HFA := Lib.hid (fun (W : World) (h : Below wc.heap.size wc W) => vformat10 z a P cp A' ca ps gs W wc.heap.size h.size (f1.keep h (Nat.le_refl _)) (f2.keep h (Nat.le_refl _)) (by have := hA.lp; omega) (by have := hA.lg; omega) (fun s hs => by have := hA.sp s hs; unfold maxLen; omega) (fun s hs => by have := hA.sg s hs; unfold maxLen; omega) (fun j hj => by have := hA.rng j hj; omega) (HC.out _ (below_then hbx h)) (HT.out _ (below_then hbx h)) (HW.out _ (below_then hbx h)))
    have HFB := Lib.hid (fun (W : World) (h : Below wc.heap.size wc W) => vformat10 zb ab P3 cp3 A3 ca3 pb gb W wc.heap.size h.size (g1.keep h (Nat.le_refl _)) (g2.keep h (Nat.le_refl _)) (by have := hB.lp; omega) (by have := hB.lg; omega) (fun s hs => by have := hB.sp s hs; unfold maxLen; omega) (fun s hs => by have := hB.sg s hs; unfold maxLen; omega) (fun j hj => by have := hB.rng j hj; omega) (HC.out _ (below_then hbx h)) (HT.out _ (below_then hbx h)) (HW.out _ (below_then hbx h)))
    have HSM := Lib.hid (fun (W : World) (h : Below wc.heap.size wc W) => rsameC z zb a ab P P3 cp cp3 A' A3 ca ca3 ps gs pb gb W wc.heap.size h.size (f1.keep h (Nat.le_refl _)) (f2.keep h (Nat.le_refl _)) (g1.keep h (Nat.le_refl _)) (g2.keep h (Nat.le_refl _)) (by have := hA.lp; omega) (by have := hA.lg; omega) (by have := hB.lp; omega) (by have := hB.lg; omega))
    have HAW := Lib.hid (fun (W : World) (h : Below wc.heap.size wc W) => awake10 W (HC.out _ (below_then hbx h)) (HT.out _ (below_then hbx h)) (HW.out _ (below_then hbx h)))
    have GA := hA.blk
    have GB := hB.blk
    clear hA hB f1 f2 g1 g2 hA0 HF1 HF2 HA
    have qa0 := GA.cell 0
    have qa1 := GA.cell 1
    have qa2 := GA.cell 2
    have qa3 := GA.cell 3
    have qa4 := GA.cell 4
    have qa5 := GA.cell 5
    have qa6 := GA.cell 6
    go_wp2_with fail
    refine (HFA.out _ (Below.refl _ _)).mono ?_
    rintro e v1 ⟨rfl, hc1⟩
    have GA1 := GA.below hc1
    have GB1 := GB.below hc1
    clear qa0 qa1 qa2 qa3 qa4 qa5 qa6
    have qb0 := GB1.cell 0
    have qb1 := GB1.cell 1
    have qb2 := GB1.cell 2
    have qb3 := GB1.cell 3
    have qb4 := GB1.cell 4
    have qb5 := GB1.cell 5
    have qb6 := GB1.cell 6
    go_wp2_with fail
    refine (HFB.out _ hc1).mono ?_
    rintro e v2 ⟨rfl, hc2⟩
    have c2 := below_then hc1 hc2
    have GA2 := GA1.below hc2
    have GB2 := GB1.below hc2
    clear qb0 qb1 qb2 qb3 qb4 qb5 qb6
    by_cases ca' : callE z a ps gs = 0
    · by_cases cb' : callE zb ab pb gb = 0
      · have HX := Lib.hid (show EqC z zb a ab ps pb gs gb ↔ callS z a ps gs = callS zb ab pb gb from ⟨fun h => callS_congr h, fun h => call_inj ca' cb' h⟩)
        rw [ca', cb']
        clear ca' cb'
        have qa0 := GA2.cell 0
        have qb0 := GB2.cell 0
        have qa1 := GA2.cell 1
        have qb1 := GB2.cell 1
        have qa2 := GA2.cell 2
        have qb2 := GB2.cell 2
        have qa3 := GA2.cell 3
        have qb3 := GB2.cell 3
        have qa4 := GA2.cell 4
        have qb4 := GB2.cell 4
        have qa5 := GA2.cell 5
        have qb5 := GB2.cell 5
        have qa6 := GA2.cell 6
        have qb6 := GB2.cell 6
        go_wp2_with fail
        refine (HSM.out _ c2).mono ?_
        rintro e v3 ⟨r, rfl, hr, hc3⟩
        have c3 := below_then c2 hc3
        by_cases hs : callS z a ps gs = callS zb ab pb gb
        · have hr' : r = true := hr.2 (HX.out.2 hs)
          have hs' := str_eq hs
          subst hr'
          clear hs hr
          go_wp2_with fail
          refine (HAW.out _ c3).mono ?_
          rintro e v4 ⟨rfl, hc4⟩
          go_wp2_with fail
          go_ret
          exact ⟨rfl, below_then hbx (below_then c3 hc4)⟩
        · have hr' : r = false := by rw [← Bool.not_eq_true]; exact fun h => hs (HX.out.1 (hr.1 h))
          have hs' := str_ne hs
          subst hr'
          clear hs hr
          go_wp2_with fail
          refine (HAW.out _ c3).mono ?_
          rintro e v4 ⟨rfl, hc4⟩
          go_wp2_with fail
          go_ret
          exact ⟨rfl, below_then hbx (below_then c3 hc4)⟩
      · have hcb : (callE zb ab pb gb != 0) = true := by simpa using cb'
        rw [ca']
        clear ca' cb'
        go_wp2_with fail
        refine (HAW.out _ c2).mono ?_
        rintro e v4 ⟨rfl, hc4⟩
        go_wp2_with fail
        go_ret
        exact ⟨rfl, below_then hbx (below_then c2 hc4)⟩
    · have hca : (callE z a ps gs != 0) = true := by simpa using ca'
      clear ca'
      go_wp2_with fail
      refine (HAW.out _ c2).mono ?_
      rintro e v4 ⟨rfl, hc4⟩
      go_wp2_with fail
      go_ret
      exact ⟨rfl, below_then hbx (below_then c2 hc4)⟩
end Go.Proofs.YtokkbboahajbhaaDoor
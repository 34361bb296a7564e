/- Texts of one proof, laid together. -/
import Derived.Test.YtbbihfafkpniiaaGreatDoorC26
/- The walk of the law RuleChecks. -/
namespace Go.Proofs.YtbbihfafkpniiaaGreatDoor
open Go.RowKit
theorem rul_put3 {w : World} {g : Nat} {r : Rul} {v : Value} (h : RulB w g r v) (x y : Int) :
    RulB (((w.setCell ⟨g, 0, none⟩ (.int .i64 x)).setCell ⟨g, 1, none⟩ (.int .i64 y)).setCell ⟨g, 3, none⟩ noT) g { r with li := x, ac := y, ts := [] } noT := by
  have h0 : RulB (w.setCell ⟨g, 0, none⟩ (.int .i64 x)) g { r with li := x } v := Blk.put h 0 (.int .i64 x)
  have h1 : RulB ((w.setCell ⟨g, 0, none⟩ (.int .i64 x)).setCell ⟨g, 1, none⟩ (.int .i64 y)) g { r with li := x, ac := y } v := Blk.put h0 1 (.int .i64 y)
  exact Blk.put h1 3 noT
theorem rul_putca {w : World} {g : Nat} {r : Rul} {v : Value} (h : RulB w g r v) (k : Nat) : RulB (w.setCell ⟨g, 2, none⟩ (.int .u64 (k : Int))) g { r with ca := k } v := Blk.put h 2 (.int .u64 (k : Int))
theorem in_light {r : Rul} (h : InR r) : r.ts.length ≤ maxLen ∧ r.pa.size ≤ maxLen ∧ r.ke.size ≤ maxLen ∧ ∀ t ∈ r.ts, t.tx.size ≤ maxLen := ⟨h.ln, h.pa, h.ke, fun t ht => (h.ts t ht).2⟩
theorem siz_no {r : Rul} (h : SizR r) (x y : Int) (k : Nat) (hk : k < 18446744073709551616) : SizR { r with li := x, ac := y, ts := [], ca := k } := ⟨hk, h.pa, h.ke, (fun t ht => by cases ht), by simp⟩
attribute [local irreducible] lightB checkR
set_option maxRecDepth 100000 in
set_option maxHeartbeats 8000000 in
theorem ruleChecks_walk (r : Rul) (A : Option Addr) (c : Nat) (hI : InR r) (w : World) (hT : TestsAt w w.heap.size A r.ts) (hG : RGlob w) (hE : Env w) :
    Calls Tryz.prog 3 #[rulV r (.slice A r.ts.length c)] w fun e w' => e = .returned (.bool true) ∧ Below w.heap.size w w' := by
  obtain ⟨HG0, HB0⟩ := rul_box w r (.slice A r.ts.length c)
  have HX := Lib.hid HG0
  have HB := Lib.hid HB0
  have HTT := Lib.hid (fun (W : World) (h : Below w.heap.size w W) => (hT.keep h (Nat.le_refl _)).more h.size)
  have HAW := Lib.hid (fun (W : World) (h : Below w.heap.size w W) => awakeR W (hG.below h) (hE.below h))
  have HLI := Lib.hid (fun (W : World) (h : Below w.heap.size w W) => vlight r A r.ts.length c rfl (in_light hI) W (HTT.out W h))
  have HAG := Lib.hid (fun (hz : SizR r) (W : World) (h : Below w.heap.size w W) => agreesR r A r.ts.length c rfl hz (fun t ht => (hI.ts t ht).1) W (HTT.out W h) (hG.below h))
  have HAG2 := Lib.hid (fun (q : Rul) (hz : SizR q) (hq : q.ts = []) (W : World) (h : Below w.heap.size w W) => agreesR q none 0 0 (by rw [hq]; rfl) hz (fun t ht => by rw [hq] at ht; cases ht) W (by rw [hq]; exact TestsAt.nil) (hG.below h))
  have HSZ := Lib.hid (fun (h : lightB r = true) => light_siz h hI.ca)
  clear HG0 HB0 hT hG hE hI
  go_enter Tryz.func3, Tryz.ntmps3
  go_wp2_with ((with_reducible refine load_blk ?_ 26 (.tmp 1) ?_ HX.out ?_ _ Tryz.underlying26 ?_ ?_ ?_); (iterate 4 rfl); exact rul_sz _ _)
  refine (HLI.out _ HB.out).mono ?_
  rintro e w1 ⟨rfl, hb1⟩
  have HX1 := Lib.hid (Blk.below HX.out hb1)
  have HB1 := Lib.hid (below_then HB.out hb1)
  clear hb1 HX HB HLI
  cases hl : lightB r
  · clear hl
    go_wp2_with fail
    refine (HAW.out _ HB1.out).mono ?_
    rintro e w2 ⟨rfl, hb2⟩
    have HB2 := Lib.hid (below_then HB1.out hb2)
    clear hb2
    go_wp2_with fail
    go_ret
    exact ⟨rfl, HB2.out⟩
  · have hz := Lib.hid (HSZ.out hl)
    clear hl HSZ
    go_wp2_with ((with_reducible refine load_blk ?_ 26 (.tmp 1) ?_ HX1.out ?_ _ Tryz.underlying26 ?_ ?_ ?_); (iterate 4 rfl); exact rul_sz _ _)
    refine (HAG.out hz.out _ HB1.out).mono ?_
    rintro e w2 ⟨rfl, hb2⟩
    have HX2 := Lib.hid (show RulB w2 w.heap.size r (.slice A r.ts.length c) from Blk.below HX1.out hb2)
    have HB2 := Lib.hid (below_then HB1.out hb2)
    clear hb2 HX1 HB1 HAG
    have c0 := RulB.c0 HX2.out
    have c1 := RulB.c1 HX2.out
    have f0 := HX2.out.free 0
    have f1 := HX2.out.free 1
    have f3 := HX2.out.free 3
    have c3 := RulB.c3 HX2.out
    have HP := Lib.hid (fun x y => rul_put3 HX2.out x y)
    have HPB := Lib.hid (fun (x y z : Value) => show Below w.heap.size w (((w2.setCell ⟨w.heap.size, 0, none⟩ x).setCell ⟨w.heap.size, 1, none⟩ y).setCell ⟨w.heap.size, 3, none⟩ z) from ((HB2.out.setCell (Nat.le_refl _) _).setCell (Nat.le_refl _) _).setCell (Nat.le_refl _) _)
    go_wp2_with ((with_reducible refine load_blk ?_ 26 (.tmp 1) ?_ (HP.out _ _) ?_ _ Tryz.underlying26 ?_ ?_ ?_); (iterate 4 rfl); exact rul_sz _ _)
    refine (HAG2.out { r with li := _, ac := _, ts := [] } (siz_no hz.out _ _ _ hz.out.ca) rfl _ (HPB.out _ _ _)).mono ?_
    rintro e w3 ⟨rfl, hb3⟩
    have HB3 := Lib.hid (below_then (HPB.out _ _ _) hb3)
    have hq : ∃ q : Rul, SizR q ∧ q.ts = [] ∧ RulB w3 w.heap.size q noT := ⟨_, siz_no hz.out _ _ _ hz.out.ca, rfl, Blk.below (HP.out _ _) hb3⟩
    obtain ⟨q, hq1, hq2, hq3⟩ := hq
    have HQ1 := Lib.hid hq1
    have HQ2 := Lib.hid hq2
    have HX3 := Lib.hid hq3
    clear hb3 hq1 hq2 hq3 HP HPB HX2 HB2 c0 c1 f0 f1 f3 c3
    have c2 := RulB.c2 HX3.out
    have f2 := HX3.out.free 2
    have ha := and_low q.ca HQ1.out.ca
    have hlt : q.ca % 4294967296 < 18446744073709551616 := by omega
    generalize q.ca % 4294967296 = k at *
    have HP := Lib.hid (rul_putca HX3.out k)
    have HPB := Lib.hid (show Below w.heap.size w (w3.setCell ⟨w.heap.size, 2, none⟩ (.int .u64 (k : Int))) from HB3.out.setCell (Nat.le_refl _) _)
    have HZQ := Lib.hid (show SizR { q with ca := k } from ⟨hlt, HQ1.out.pa, HQ1.out.ke, HQ1.out.tx, HQ1.out.ln⟩)
    clear hlt
    go_wp2_with ((with_reducible refine load_blk ?_ 26 (.tmp 1) ?_ HP.out ?_ _ Tryz.underlying26 ?_ ?_ ?_); (iterate 4 rfl); exact rul_sz _ _)
    refine (HAG2.out _ HZQ.out HQ2.out _ HPB.out).mono ?_
    rintro e w4 ⟨rfl, hb4⟩
    have HB4 := Lib.hid (below_then HPB.out hb4)
    clear hb4 HP HPB ha c2 f2
    go_wp2_with fail
    refine (HAW.out _ HB4.out).mono ?_
    rintro e w5 ⟨rfl, hb5⟩
    have HB5 := Lib.hid (below_then HB4.out hb5)
    clear hb5
    go_wp2_with fail
    go_ret
    exact ⟨rfl, HB5.out⟩
end Go.Proofs.YtbbihfafkpniiaaGreatDoor
/- The walk of RuleChecks, with what the row lists. -/

/- Event of the small example, and awake. -/
import Derived.Test.YtollifnnpihfdaaDoorEmSys
namespace Go.Proofs.YtollifnnpihfdaaDoor
open Go.RowKit
abbrev cxL : Array Value := #[.int .i64 2, .int .i64 0, .int .i64 0, .int .i64 0, .int .i64 0, .int .i64 0, .int .i64 0, .int .i64 0, .int .i64 0, .int .i64 0, .int .i64 0, .string ⟨#[]⟩, .string ⟨#[]⟩, .slice none 0 0, .bool false, .int .i64 3, .int .i64 0, .int .i64 0, .int .i64 0, .int .i64 0, .slice none 0 0, .slice none 0 0, .int .i64 0, .slice none 0 0, .int .i64 0]
theorem cxL_sz : (Tryd.prog.info? 55).map (·.size) = some cxL.size := by show _ = some 25; kernel_rfl
def EventPost (w : World) (e : Ending) (w' : World) : Prop := ∃ (A : Option Addr) (c : Nat) (x y : Rm), e = .returned (.slice A 2 c) ∧ AtE ER w' w'.heap.size A [x, y] ∧ x.r.ty = 1300 ∧ x.r.ti = 5 ∧ x.r.ps.length = 19 ∧ y.r.ty = 1320 ∧ Below w.heap.size w w'
abbrev ev4 (w : World) : World := (((w.alloc (.cells #[.slice none 0 0, .slice none 0 0] 60)).alloc (.cells #[.slice none 0 0, .slice none 0 0] 66)).alloc (.cells cxL 55)).alloc (.cells #[.bool true, .int .i64 0, .string ⟨#[107]⟩] 68)
theorem ev4_sz (w : World) : (ev4 w).heap.size = w.heap.size + 4 := by simp [ev4]
theorem ev4_cx (w : World) : Blk (ev4 w) (w.heap.size + 2) 55 cxL := by
  have := Blk.new ((w.alloc (.cells #[.slice none 0 0, .slice none 0 0] 60)).alloc (.cells #[.slice none 0 0, .slice none 0 0] 66)) cxL 55
  have e : ((w.alloc (.cells #[.slice none 0 0, .slice none 0 0] 60)).alloc (.cells #[.slice none 0 0, .slice none 0 0] 66)).heap.size = w.heap.size + 2 := by simp
  rw [e] at this
  exact this.alloc _
theorem ev4_low (w : World) : Below w.heap.size w (ev4 w) := ((((Below.refl _ _).alloc (Nat.le_refl _) _).alloc (by simp) _).alloc (by simp; omega) _).alloc (by simp; omega) _
set_option maxRecDepth 100000 in
set_option maxHeartbeats 8000000 in
theorem vevent (w : World) (hc : Calls10 w) : Calls Tryd.prog 15 #[.agg #[.slice none 0 0, .slice none 0 0], .agg #[.slice none 0 0, .slice none 0 0], .agg cxL, .agg #[.bool true, .int .i64 0, .string ⟨#[107]⟩], .int .i64 5] w (EventPost w) := by
  have X7 := Lib.hid (ev4_cx w)
  have HB := Lib.hid (ev4_low w)
  have HS := Lib.hid (ev4_sz w)
  have HC := Lib.hid (fun (W : World) (h : Below w.heap.size w W) => hc.below h (Nat.le_refl _))
  clear hc
  go_enter Tryd.func15, Tryd.ntmps15
  go_wp2_with ((with_reducible refine load_blk ?_ 55 (.tmp 7) ?_ X7.out ?_ _ Tryd.underlying55 ?_ ?_ ?_); (iterate 4 rfl); exact cxL_sz)
  have hg0 : Blk ((ev4 w).alloc (.cells #[.slice none 0 0, .slice none 0 0, .int .i64 2, .int .i64 0, .int .i64 0, .int .i64 0, .int .i64 0, .int .i64 0, .int .i64 0, .int .i64 0, .int .i64 0, .int .i64 0, .int .i64 0, .string ⟨#[]⟩, .string ⟨#[]⟩, .slice none 0 0, .bool false, .int .i64 3, .int .i64 0, .int .i64 0, .int .i64 0, .int .i64 0, .slice none 0 0, .slice none 0 0, .int .i64 0, .slice none 0 0, .int .i64 0, .int .i64 5, .slice none 0 0] 73)) (w.heap.size + 4) 73 (mkC (.slice none 0 0)) := by
    have := Blk.new (ev4 w) #[.slice none 0 0, .slice none 0 0, .int .i64 2, .int .i64 0, .int .i64 0, .int .i64 0, .int .i64 0, .int .i64 0, .int .i64 0, .int .i64 0, .int .i64 0, .int .i64 0, .int .i64 0, .string ⟨#[]⟩, .string ⟨#[]⟩, .slice none 0 0, .bool false, .int .i64 3, .int .i64 0, .int .i64 0, .int .i64 0, .int .i64 0, .slice none 0 0, .slice none 0 0, .int .i64 0, .slice none 0 0, .int .i64 0, .int .i64 5, .slice none 0 0] 73
    rw [ev4_sz] at this
    exact this
  have hb0 : Below w.heap.size w ((ev4 w).alloc (.cells #[.slice none 0 0, .slice none 0 0, .int .i64 2, .int .i64 0, .int .i64 0, .int .i64 0, .int .i64 0, .int .i64 0, .int .i64 0, .int .i64 0, .int .i64 0, .int .i64 0, .int .i64 0, .string ⟨#[]⟩, .string ⟨#[]⟩, .slice none 0 0, .bool false, .int .i64 3, .int .i64 0, .int .i64 0, .int .i64 0, .int .i64 0, .slice none 0 0, .slice none 0 0, .int .i64 0, .slice none 0 0, .int .i64 0, .int .i64 5, .slice none 0 0] 73)) := HB.out.alloc HB.out.size _
  refine (vsys (w.heap.size + 4) _ hg0 (HC.out _ hb0)).mono ?_
  rintro e w1 ⟨v, x, rfl, hg1, ho, t1, t2, t3, hgr⟩
  obtain ⟨A, c, hv, hA⟩ := ho.at
  subst hv
  have X7b := Lib.hid (Blk.grown (X7.out.alloc (.cells #[.slice none 0 0, .slice none 0 0, .int .i64 2, .int .i64 0, .int .i64 0, .int .i64 0, .int .i64 0, .int .i64 0, .int .i64 0, .int .i64 0, .int .i64 0, .int .i64 0, .int .i64 0, .string ⟨#[]⟩, .string ⟨#[]⟩, .slice none 0 0, .bool false, .int .i64 3, .int .i64 0, .int .i64 0, .int .i64 0, .int .i64 0, .slice none 0 0, .slice none 0 0, .int .i64 0, .slice none 0 0, .int .i64 0, .int .i64 5, .slice none 0 0] 73)) hgr (fun e => by injection e with e; omega))
  have HB1 := Lib.hid (show Below w.heap.size w w1 from hb0.trans ⟨hgr.os, hgr.tape, hgr.output, hgr.size, fun i hi => hgr.block i (by have := hb0.size; omega) (fun e => by injection e with e; omega)⟩)
  have HO := Lib.hid (ho.low (base := w.heap.size) hb0.size)
  have HT := Lib.hid (And.intro t1 (And.intro t2 t3))
  have c15 := X7b.out.cell 15
  have c23 := X7b.out.cell 23
  have r28 := (hg1.cell 28).trans (mk_28 _)
  clear hg0 hb0 hg1 ho t1 t2 t3 hgr hA X7 HB HS HC
  go_wp2_with fail
  go_loopw [76] (fun i wr => i = .int .i64 0 ∧ wr = w1) (fun i _ => 0)
  case atStart => exact ⟨rfl, rfl⟩
  case round =>
    obtain ⟨rfl, rfl⟩ := hrel
    have RW := Lib.hid (row_newE ER wr #[.int .i64 1320, .int .i64 5, .int .i64 0, .slice none 0 0] 29 ⟨⟨1320, 5, 0, []⟩, none, 0⟩ rfl (Nat.lt_succ_self wr.heap.size))
    have HO2 := Lib.hid (HO.out.alloc (.cells #[.int .i64 1320, .int .i64 5, .int .i64 0, .slice none 0 0] 29))
    have HB2 := Lib.hid (HB1.out.alloc HB1.out.size (.cells #[.int .i64 1320, .int .i64 5, .int .i64 0, .slice none 0 0] 29))
    go_wp2_with (refine wpList_append_el ER rfl (.tmp 95) (.tmp 98) rfl w.heap.size (.slice A 1 c) [x] rfl HO2.out (wr.heap.size + 1) (some ⟨wr.heap.size, 0, none⟩) 1 1 [⟨⟨1320, 5, 0, []⟩, none, 0⟩] rfl rfl RW.out (by simp) (by exact HB2.out.size) ?_; intro v6 w6 ho6 hg6 hat6)
    obtain ⟨A6, c6, hv6, hA6⟩ := ho6.at
    subst hv6
    have HF := Lib.hid (show EventPost w (.returned (.slice A6 2 c6)) w6 from ⟨A6, c6, x, ⟨⟨1320, 5, 0, []⟩, none, 0⟩, rfl, hA6, HT.out.1, HT.out.2.1, HT.out.2.2, rfl, HB2.out.grown hg6 HB2.out.size (fun k e => by have := HO2.out.ge k e; omega)⟩)
    clear hA6 hg6 hat6 ho6
    go_wp2_with fail
    go_ret
    exact HF.out
end Go.Proofs.YtollifnnpihfdaaDoor

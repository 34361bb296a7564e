/- Texts of one proof, laid together. -/
import Derived.Test.YtollifnnpihfdaaGreatDoorC31
import Derived.Test.YtollifnnpihfdaaGreatDoorC32
import Derived.Deep.DeepCutAuto
import Derived.Deep.CutBlock
/- The source of numbers of package kauditmake: Item. -/
namespace Go.Proofs.YtollifnnpihfdaaGreatDoor
open Go.RowKit
abbrev zeroI : Array Value := #[.string ⟨#[]⟩, .string ⟨#[]⟩, .int .i64 0, .int .i64 0, .string ⟨#[]⟩, .int .i64 0, .int .i64 0, .int .i64 0, .int .i64 0, .int .i64 0, .int .i64 0, .int .i64 0, .int .i64 0]
theorem item_old (i : Itm) (r : IRest) : zeroI.size = (itemC i r).size := rfl
theorem item_one (i : Itm) (r : IRest) : (itemC i r).all (·.oneCell') = true := by simp [itemC, Value.oneCell']
/-- What the making of an item keeps: the source, the item so far, the block of the result. -/
structure J1 (w wr : World) (base g : Nat) (b : Int) (gc : Nat) (i : Itm) (r : IRest) : Prop where
  only : w.grownBy wr (some g)
  src : SrcOk wr base g b
  rb : Blk wr w.heap.size 73 zeroI
  cb : Blk wr gc 73 (itemC i r)
  h2 : w.heap.size < gc
  h3 : g < w.heap.size
  h4 : base ≤ w.heap.size
section
variable {w wr w' : World} {base g gc : Nat} {b b' : Int} {i : Itm} {r : IRest}
theorem J1.alloc (h : J1 w wr base g b gc i r) (o : Obj) : J1 w (wr.alloc o) base g b gc i r := ⟨only_alloc h.only o, h.src.alloc o, h.rb.alloc o, h.cb.alloc o, h.h2, h.h3, h.h4⟩
theorem J1.step (h : J1 w wr base g b gc i r) (hs : SrcOk w' base g b') (hg : wr.grownBy w' (some g)) : J1 w w' base g b' gc i r := ⟨h.only.trans hg, hs, h.rb.grown hg (fun e => by injection e with e; have := h.h3; omega), h.cb.grown hg (fun e => by injection e with e; have := h.h2; have := h.h3; omega), h.h2, h.h3, h.h4⟩
theorem J1.pa (h : J1 w wr base g b gc i r) (x : ByteArray) : J1 w (wr.setCell ⟨gc, 1, none⟩ (.string x)) base g b gc i { r with pa := x } := ⟨only_setCell h.only (.inr (by show w.heap.size ≤ gc; have := h.h2; omega)) _, h.src.setCell (by show base ≤ gc; have := h.h2; have := h.h4; omega) (by show gc ≠ g; have := h.h2; have := h.h3; omega) _, h.rb.put_other _ (by show w.heap.size ≠ gc; have := h.h2; omega), h.cb.put 1 (.string x), h.h2, h.h3, h.h4⟩
theorem J1.dd (h : J1 w wr base g b gc i r) (x : Int) : J1 w (wr.setCell ⟨gc, 2, none⟩ (.int .i64 x)) base g b gc i { r with dd := x } := ⟨only_setCell h.only (.inr (by show w.heap.size ≤ gc; have := h.h2; omega)) _, h.src.setCell (by show base ≤ gc; have := h.h2; have := h.h4; omega) (by show gc ≠ g; have := h.h2; have := h.h3; omega) _, h.rb.put_other _ (by show w.heap.size ≠ gc; have := h.h2; omega), h.cb.put 2 (.int .i64 x), h.h2, h.h3, h.h4⟩
theorem J1.di (h : J1 w wr base g b gc i r) (x : Int) : J1 w (wr.setCell ⟨gc, 3, none⟩ (.int .i64 x)) base g b gc i { r with di := x } := ⟨only_setCell h.only (.inr (by show w.heap.size ≤ gc; have := h.h2; omega)) _, h.src.setCell (by show base ≤ gc; have := h.h2; have := h.h4; omega) (by show gc ≠ g; have := h.h2; have := h.h3; omega) _, h.rb.put_other _ (by show w.heap.size ≠ gc; have := h.h2; omega), h.cb.put 3 (.int .i64 x), h.h2, h.h3, h.h4⟩
theorem J1.nm (h : J1 w wr base g b gc i r) (x : ByteArray) : J1 w (wr.setCell ⟨gc, 4, none⟩ (.string x)) base g b gc i { r with nm := x } := ⟨only_setCell h.only (.inr (by show w.heap.size ≤ gc; have := h.h2; omega)) _, h.src.setCell (by show base ≤ gc; have := h.h2; have := h.h4; omega) (by show gc ≠ g; have := h.h2; have := h.h3; omega) _, h.rb.put_other _ (by show w.heap.size ≠ gc; have := h.h2; omega), h.cb.put 4 (.string x), h.h2, h.h3, h.h4⟩
theorem J1.dev (h : J1 w wr base g b gc i r) (x : Int) : J1 w (wr.setCell ⟨gc, 5, none⟩ (.int .i64 x)) base g b gc { i with dev := x } r := ⟨only_setCell h.only (.inr (by show w.heap.size ≤ gc; have := h.h2; omega)) _, h.src.setCell (by show base ≤ gc; have := h.h2; have := h.h4; omega) (by show gc ≠ g; have := h.h2; have := h.h3; omega) _, h.rb.put_other _ (by show w.heap.size ≠ gc; have := h.h2; omega), h.cb.put 5 (.int .i64 x), h.h2, h.h3, h.h4⟩
theorem J1.ino (h : J1 w wr base g b gc i r) (x : Int) : J1 w (wr.setCell ⟨gc, 6, none⟩ (.int .i64 x)) base g b gc { i with ino := x } r := ⟨only_setCell h.only (.inr (by show w.heap.size ≤ gc; have := h.h2; omega)) _, h.src.setCell (by show base ≤ gc; have := h.h2; have := h.h4; omega) (by show gc ≠ g; have := h.h2; have := h.h3; omega) _, h.rb.put_other _ (by show w.heap.size ≠ gc; have := h.h2; omega), h.cb.put 6 (.int .i64 x), h.h2, h.h3, h.h4⟩
theorem J1.kind (h : J1 w wr base g b gc i r) (x : Int) : J1 w (wr.setCell ⟨gc, 8, none⟩ (.int .i64 x)) base g b gc { i with kind := x } r := ⟨only_setCell h.only (.inr (by show w.heap.size ≤ gc; have := h.h2; omega)) _, h.src.setCell (by show base ≤ gc; have := h.h2; have := h.h4; omega) (by show gc ≠ g; have := h.h2; have := h.h3; omega) _, h.rb.put_other _ (by show w.heap.size ≠ gc; have := h.h2; omega), h.cb.put 8 (.int .i64 x), h.h2, h.h3, h.h4⟩
theorem J1.mo (h : J1 w wr base g b gc i r) (x : Int) : J1 w (wr.setCell ⟨gc, 9, none⟩ (.int .i64 x)) base g b gc i { r with mo := x } := ⟨only_setCell h.only (.inr (by show w.heap.size ≤ gc; have := h.h2; omega)) _, h.src.setCell (by show base ≤ gc; have := h.h2; have := h.h4; omega) (by show gc ≠ g; have := h.h2; have := h.h3; omega) _, h.rb.put_other _ (by show w.heap.size ≠ gc; have := h.h2; omega), h.cb.put 9 (.int .i64 x), h.h2, h.h3, h.h4⟩
theorem J1.uid (h : J1 w wr base g b gc i r) (x : Int) : J1 w (wr.setCell ⟨gc, 10, none⟩ (.int .i64 x)) base g b gc { i with uid := x } r := ⟨only_setCell h.only (.inr (by show w.heap.size ≤ gc; have := h.h2; omega)) _, h.src.setCell (by show base ≤ gc; have := h.h2; have := h.h4; omega) (by show gc ≠ g; have := h.h2; have := h.h3; omega) _, h.rb.put_other _ (by show w.heap.size ≠ gc; have := h.h2; omega), h.cb.put 10 (.int .i64 x), h.h2, h.h3, h.h4⟩
theorem J1.gid (h : J1 w wr base g b gc i r) (x : Int) : J1 w (wr.setCell ⟨gc, 11, none⟩ (.int .i64 x)) base g b gc { i with gid := x } r := ⟨only_setCell h.only (.inr (by show w.heap.size ≤ gc; have := h.h2; omega)) _, h.src.setCell (by show base ≤ gc; have := h.h2; have := h.h4; omega) (by show gc ≠ g; have := h.h2; have := h.h3; omega) _, h.rb.put_other _ (by show w.heap.size ≠ gc; have := h.h2; omega), h.cb.put 11 (.int .i64 x), h.h2, h.h3, h.h4⟩
end
def ItemPost (w : World) (base g : Nat) (b : Int) (e : Ending) (w' : World) : Prop := ∃ (i : Itm) (r : IRest), e = .returned (itemV i r) ∧ SrcOk w' base g b ∧ w.grownBy w' (some g)
theorem item_ret {f : FuncId} {fn : Func} (_hf : Tryz.prog.funcs[f]? = some fn) (h : fn.results = #[.cell 2 73]) (tmps : Array Value) (w : World) (g : Nat) (i : Itm) (r : IRest) (hp : tmps.getD 2 undef = .pointer (some ⟨g, 0, none⟩)) (hg : Blk w g 73 (itemC i r)) :
    (results fn tmps).run Tryz.prog w = .ok (.agg (itemC i r)) w :=
  results_cell_row h tmps w g _ (itemC i r) (0, 0) _ hp hg Tryz.underlying73 rfl (item_sz _ _)
theorem item_end {w wr : World} {base g gc : Nat} {b b' : Int} {i : Itm} {r : IRest} (h : J1 w wr base g b' gc i r) (hb : b' ≤ b) : ItemPost w base g b (.returned (itemV i r)) (wr.setRow w.heap.size (itemC i r)) := by
  have h3 := h.h3
  have h4 := h.h4
  exact ⟨i, r, rfl, (h.src.keep (setRow_other _ w.heap.size g _ (by omega)) (fun i hi => setRow_other _ w.heap.size i _ (by omega))).more hb, ⟨h.only.os, h.only.tape, h.only.output, by rw [setRow_size]; exact h.only.size, fun i hi hne => (setRow_other _ w.heap.size i _ (by omega)).trans (h.only.block i hi hne)⟩⟩
theorem item_cs {w : World} {g : Nat} {i : Itm} {r : IRest} (h : Blk w g 73 (itemC i r)) : w.cell? ⟨g, 1, none⟩ = some (.string r.pa) ∧ w.cell? ⟨g, 2, none⟩ = some (.int .i64 r.dd) ∧ w.cell? ⟨g, 3, none⟩ = some (.int .i64 r.di) ∧ w.cell? ⟨g, 4, none⟩ = some (.string r.nm) ∧ w.cell? ⟨g, 5, none⟩ = some (.int .i64 i.dev) ∧ w.cell? ⟨g, 6, none⟩ = some (.int .i64 i.ino) ∧ w.cell? ⟨g, 8, none⟩ = some (.int .i64 i.kind) ∧ w.cell? ⟨g, 9, none⟩ = some (.int .i64 r.mo) ∧ w.cell? ⟨g, 10, none⟩ = some (.int .i64 i.uid) ∧ w.cell? ⟨g, 11, none⟩ = some (.int .i64 i.gid) :=
  ⟨h.cell 1, h.cell 2, h.cell 3, h.cell 4, h.cell 5, h.cell 6, h.cell 8, h.cell 9, h.cell 10, h.cell 11⟩
theorem item_new (gv : ByteArray) (ro pe : Int) : (#[.string gv, .string ⟨#[]⟩, .int .i64 0, .int .i64 0, .string ⟨#[]⟩, .int .i64 0, .int .i64 0, .int .i64 ro, .int .i64 0, .int .i64 0, .int .i64 0, .int .i64 0, .int .i64 pe] : Array Value) = itemC Itm.none ⟨gv, ⟨#[]⟩, 0, 0, ⟨#[]⟩, ro, 0, pe⟩ := rfl
structure J0 (w wr : World) (base g : Nat) (b : Int) : Prop where
  only : w.grownBy wr (some g)
  src : SrcOk wr base g b
  rb : Blk wr w.heap.size 73 zeroI
  h3 : g < w.heap.size
  h4 : base ≤ w.heap.size
theorem J0.step {w wr w' : World} {base g : Nat} {b b' : Int} (h : J0 w wr base g b) (hs : SrcOk w' base g b') (hg : wr.grownBy w' (some g)) : J0 w w' base g b' := ⟨h.only.trans hg, hs, h.rb.grown hg (fun e => by injection e with e; have := h.h3; omega), h.h3, h.h4⟩
attribute [local irreducible] itemC
set_option maxRecDepth 100000 in
set_option maxHeartbeats 8000000 in
theorem src_item (w : World) (base g : Nat) (b : Int) (h : SrcOk w base g b) (hb : b ≤ 1000000000000) :
    Calls Tryz.prog 62 #[.pointer (some ⟨g, 0, none⟩)] w (ItemPost w base g (b + 40)) := by
  have HB := Lib.hid hb
  have hlt0 : g < w.heap.size := src_lt h
  have hbase : base ≤ w.heap.size := by have := h.1; omega
  have st0 : J0 w (w.alloc (.cells zeroI 73)) base g b := ⟨only_alloc (World.grownBy.refl w (some g)) _, h.alloc _, Blk.new w _ _, hlt0, hbase⟩
  clear h hb
  go_enter Tryz.func62, Tryz.ntmps62
  go_wp2_with fail
  refine (src_path _ base g b st0.src (by have := HB.out; omega)).mono ?_
  rintro e w1 ⟨gv, rfl, _, hs, hg⟩
  have st1 := st0.step hs hg
  clear hs hg st0
  go_wp2_with fail
  refine (src_range _ base g (b + 20) 1 3 st1.src (by have := HB.out; omega) (by omega) (by omega) (by omega)).mono ?_
  rintro e w2 ⟨ro, rfl, _, _, hs, hg⟩
  have st2 := st1.step hs hg
  clear hs hg st1
  go_wp2_with fail
  refine (src_n _ base g (b + 20 + 1) 16 st2.src (by have := HB.out; omega) (by omega) (by omega)).mono ?_
  rintro e w3 ⟨pe, rfl, _, _, hs, hg⟩
  have st3 := st2.step hs hg
  have hw3 : w.heap.size < w3.heap.size := st3.rb.lt
  clear hs hg st2
  have st4 : J1 w (w3.alloc (.cells #[.string gv, .string ⟨#[]⟩, .int .i64 0, .int .i64 0, .string ⟨#[]⟩, .int .i64 0, .int .i64 0, .int .i64 ro, .int .i64 0, .int .i64 0, .int .i64 0, .int .i64 0, .int .i64 pe] 73)) base g (b + 20 + 1 + 1) w3.heap.size Itm.none ⟨gv, ⟨#[]⟩, 0, 0, ⟨#[]⟩, ro, 0, pe⟩ := ⟨only_alloc st3.only _, st3.src.alloc _, st3.rb.alloc _, by rw [← item_new]; exact Blk.new w3 _ _, hw3, hlt0, hbase⟩
  go_wp2_with fail
  refine (src_n _ base g (b + 20 + 1 + 1) 4 st4.src (by have := HB.out; omega) (by omega) (by omega)).mono ?_
  rintro e w5 ⟨k, rfl, k0, k1, hs, hg⟩
  have st5 := st4.step hs hg
  clear hs hg st4 st3
  generalize w3.heap.size = gc at *
  by_cases hk : 0 < k
  · go_wp2_with fail
    refine (src_clean _ base g (b + 20 + 1 + 1 + 1) st5.src (by have := HB.out; omega)).mono ?_
    rintro e w6 ⟨pa, rfl, _, hs, hg⟩
    have st6 := st5.step hs hg
    clear hs hg st5
    go_wp2_with fail
    refine (src_range _ base g (b + 20 + 1 + 1 + 1 + 4) 1 4 st6.src (by have := HB.out; omega) (by omega) (by omega) (by omega)).mono ?_
    rintro e w7 ⟨di, rfl, _, _, hs, hg⟩
    have st7 := st6.step hs hg
    clear hs hg st6
    go_wp2_with fail
    refine (src_name _ base g (b + 20 + 1 + 1 + 1 + 4 + 1) st7.src (by have := HB.out; omega)).mono ?_
    rintro e w8 ⟨nm, rfl, _, hs, hg⟩
    have st8 := st7.step hs hg
    clear hs hg st7
    obtain ⟨q1, q2, q3, q4, _⟩ := item_cs st8.cb
    have f1 := st8.cb.free 1
    have f2 := st8.cb.free 2
    have f3 := st8.cb.free 3
    have f4 := st8.cb.free 4
    have st9 := (((st8.pa pa).dd 0).di di).nm nm
    go_wp2_with fail
    clear q1 f1 q2 f2 q3 f3 q4 f4 st8
    generalize (((w8.setCell ⟨gc, 1, none⟩ (.string pa)).setCell ⟨gc, 2, none⟩ (.int .i64 0)).setCell ⟨gc, 3, none⟩ (.int .i64 di)).setCell ⟨gc, 4, none⟩ (.string nm) = w9 at *
    refine (src_n _ base g (b + 20 + 1 + 1 + 1 + 4 + 1 + 2) 2 st9.src (by have := HB.out; omega) (by omega) (by omega)).mono ?_
    rintro e w10 ⟨dev, rfl, _, _, hs, hg⟩
    have st10 := st9.step hs hg
    clear hs hg st9
    go_wp2_with fail
    refine (src_n _ base g (b + 20 + 1 + 1 + 1 + 4 + 1 + 2 + 1) 5 st10.src (by have := HB.out; omega) (by omega) (by omega)).mono ?_
    rintro e w11 ⟨ino, rfl, _, _, hs, hg⟩
    have st11 := st10.step hs hg
    clear hs hg st10
    go_wp2_with fail
    refine (src_n _ base g (b + 20 + 1 + 1 + 1 + 4 + 1 + 2 + 1 + 1) 4 st11.src (by have := HB.out; omega) (by omega) (by omega)).mono ?_
    rintro e w12 ⟨kind, rfl, _, _, hs, hg⟩
    have st12 := st11.step hs hg
    clear hs hg st11
    go_wp2_with fail
    refine (src_pick _ base g w12.heap.size (b + 20 + 1 + 1 + 1 + 4 + 1 + 2 + 1 + 1 + 1) 3 0 7 _ 3 (0, 0) (st12.src.alloc _) (by have := HB.out; omega) (heap_alloc_new w12 _) (by have := src_lt st12.src; omega) rfl (by omega) (by omega) rfl).mono ?_
    rintro e w13 ⟨uid, rfl, _, _, hs, hg⟩
    have st13 := (st12.alloc (.cells #[.int .i64 0, .int .i64 5, .int .i64 7] 3)).step hs hg
    clear hs hg st12
    go_wp2_with fail
    refine (src_pick _ base g w13.heap.size (b + 20 + 1 + 1 + 1 + 4 + 1 + 2 + 1 + 1 + 1 + 1) 3 0 7 _ 3 (0, 0) (st13.src.alloc _) (by have := HB.out; omega) (heap_alloc_new w13 _) (by have := src_lt st13.src; omega) rfl (by omega) (by omega) rfl).mono ?_
    rintro e w14 ⟨gid, rfl, _, _, hs, hg⟩
    have st14 := (st13.alloc (.cells #[.int .i64 0, .int .i64 5, .int .i64 7] 3)).step hs hg
    clear hs hg st13
    obtain ⟨_, _, _, _, q5, q6, q8, q9, q10, q11⟩ := item_cs st14.cb
    have f5 := st14.cb.free 5
    have f6 := st14.cb.free 6
    have f8 := st14.cb.free 8
    have f9 := st14.cb.free 9
    have f10 := st14.cb.free 10
    have f11 := st14.cb.free 11
    have stE := (((((st14.dev dev).ino ino).kind kind).mo 420).uid uid).gid gid
    go_upto_region 5 with (fail)
    clear q5 f5 q6 f6 q8 f8 q9 f9 q10 f10 q11 f11 st14
    generalize (((((w14.setCell ⟨gc, 5, none⟩ (.int .i64 dev)).setCell ⟨gc, 6, none⟩ (.int .i64 ino)).setCell ⟨gc, 8, none⟩ (.int .i64 kind)).setCell ⟨gc, 9, none⟩ (.int .i64 420)).setCell ⟨gc, 10, none⟩ (.int .i64 uid)).setCell ⟨gc, 11, none⟩ (.int .i64 gid) = w15 at *
    obtain ⟨iE, rE, stE⟩ : ∃ i r, J1 w w15 base g (b + 20 + 1 + 1 + 1 + 4 + 1 + 2 + 1 + 1 + 1 + 1 + 1) gc i r := ⟨_, _, stE⟩
    have HCB := Lib.hid stE.cb
    have HRB := Lib.hid stE.rb
    go_wp2_with (first | ((with_reducible refine load_blk ?_ 73 (.tmp 3) ?_ HCB.out ?_ _ Tryz.underlying73 ?_ ?_ ?_); (iterate 4 rfl); exact item_sz _ _) | ((with_reducible refine store_blk ?_ 73 (.tmp 2) (.tmp 42) ?_ HRB.out (itemC iE rE) ?_ ?_ ?_ ?_ ?_ ?_); (iterate 4 rfl); (exact item_sz _ _); (exact item_old _ _); (exact item_one _ _)))
    refine bodyPost_ret (item_ret Tryz.func62 rfl _ _ w.heap.size _ _ rfl (stE.rb.row _)) rfl ?_
    exact item_end stE (by omega)
  · obtain ⟨iE, rE, stE⟩ : ∃ i r, J1 w w5 base g (b + 20 + 1 + 1 + 1) gc i r := ⟨_, _, st5⟩
    have HCB := Lib.hid stE.cb
    have HRB := Lib.hid stE.rb
    clear st5
    go_wp2_with (first | ((with_reducible refine load_blk ?_ 73 (.tmp 3) ?_ HCB.out ?_ _ Tryz.underlying73 ?_ ?_ ?_); (iterate 4 rfl); exact item_sz _ _) | ((with_reducible refine store_blk ?_ 73 (.tmp 2) (.tmp 42) ?_ HRB.out (itemC iE rE) ?_ ?_ ?_ ?_ ?_ ?_); (iterate 4 rfl); (exact item_sz _ _); (exact item_old _ _); (exact item_one _ _)))
    refine bodyPost_ret (item_ret Tryz.func62 rfl _ _ w.heap.size _ _ rfl (stE.rb.row _)) rfl ?_
    exact item_end stE (by omega)
end Go.Proofs.YtollifnnpihfdaaGreatDoor

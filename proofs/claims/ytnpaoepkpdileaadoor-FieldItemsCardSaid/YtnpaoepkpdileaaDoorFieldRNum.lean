/- number, has, one of the reference. -/
import Derived.Test.YtnpaoepkpdileaaDoorFieldHold
namespace Go.Proofs.YtnpaoepkpdileaaDoor
open Go.RowKit
abbrev procC (c : Ctx) (r : CRest) : Array Value := #[.int .i64 (c.p 0), .int .i64 (c.p 1), .int .i64 (c.p 2), .int .i64 (c.p 3), .int .i64 (c.p 4), .int .i64 (c.p 5), .int .i64 (c.p 6), .int .i64 (c.p 7), .int .i64 r.d, .int .i64 r.i, .string c.comm, .string c.exe, r.o.v, .bool r.u]
abbrev zeroP : Array Value := #[.int .i64 0, .int .i64 0, .int .i64 0, .int .i64 0, .int .i64 0, .int .i64 0, .int .i64 0, .int .i64 0, .int .i64 0, .int .i64 0, .string ⟨#[]⟩, .string ⟨#[]⟩, .slice none 0 0, .bool false]
theorem proc_sz (c : Ctx) (r : CRest) : (Tryd.prog.info? 28).map (·.size) = some (procC c r).size := by show _ = some 14; kernel_rfl
attribute [local irreducible] ctxC itemC textB
theorem boxP (w : World) (c : Ctx) (r : CRest) (it : Value) (i : Itm) (ir : IRest) (W : World) (hW : W = ((w.alloc (.cells (ctxC c r it) 35)).alloc (.cells (itemC i ir) 69)).alloc (.cells (procC c r) 28)) :
    CtxB W w.heap.size c r it ∧ ItmB W (w.heap.size + 1) i ir ∧ Blk W (w.heap.size + 1 + 1) 28 (procC c r) ∧ Below w.heap.size w W := by
  subst hW
  have h3 := Blk.new ((w.alloc (.cells (ctxC c r it) 35)).alloc (.cells (itemC i ir) 69)) (procC c r) 28
  refine ⟨(box2C w c r it _).alloc _, (box2I w i ir _).alloc _, by simpa using h3, (((Below.refl _ _).alloc (Nat.le_refl _) _).alloc (by simp) _).alloc (by simp; omega) _⟩
set_option maxHeartbeats 1000000 in
theorem rnumF1 (c : Ctx) (r : CRest) (it : Value) (i : Itm) (ir : IRest) (w : World) : Calls Tryd.prog 78 #[.int .i64 1, ctxV c r it, itemV i ir] w fun e w' => e = .returned (.int .i64 (c.p 0)) ∧ Below w.heap.size w w' := by
  have HC := box2C w c r it (.cells (itemC i ir) 69)
  have q1 := HC.p0
  have q2 := HC.p1
  have q3 := HC.p2
  have q4 := HC.p3
  have q5 := HC.p4
  have q6 := HC.p5
  have q7 := HC.p6
  have q8 := HC.p7
  have q9 := HC.c9
  have q10 := HC.c10
  have q11 := HC.comm
  have q12 := HC.exe
  have q13 := HC.c13
  have q14 := HC.c14
  clear HC
  obtain ⟨hC, hI, hP, hB⟩ := boxP w c r it i ir _ rfl
  have HB := Lib.hid hB
  have s := hP.cell 0
  clear hC hI hP hB
  go_enter Tryd.func78, Tryd.ntmps78
  go_wp2_with fail
  go_ret
  exact ⟨ret_i rfl, HB.out⟩
set_option maxHeartbeats 1000000 in
theorem rnumF2 (c : Ctx) (r : CRest) (it : Value) (i : Itm) (ir : IRest) (w : World) : Calls Tryd.prog 78 #[.int .i64 2, ctxV c r it, itemV i ir] w fun e w' => e = .returned (.int .i64 (c.p 1)) ∧ Below w.heap.size w w' := by
  have HC := box2C w c r it (.cells (itemC i ir) 69)
  have q1 := HC.p0
  have q2 := HC.p1
  have q3 := HC.p2
  have q4 := HC.p3
  have q5 := HC.p4
  have q6 := HC.p5
  have q7 := HC.p6
  have q8 := HC.p7
  have q9 := HC.c9
  have q10 := HC.c10
  have q11 := HC.comm
  have q12 := HC.exe
  have q13 := HC.c13
  have q14 := HC.c14
  clear HC
  obtain ⟨hC, hI, hP, hB⟩ := boxP w c r it i ir _ rfl
  have HB := Lib.hid hB
  have s := hP.cell 1
  clear hC hI hP hB
  go_enter Tryd.func78, Tryd.ntmps78
  go_wp2_with fail
  go_ret
  exact ⟨ret_i rfl, HB.out⟩
set_option maxHeartbeats 1000000 in
theorem rnumF3 (c : Ctx) (r : CRest) (it : Value) (i : Itm) (ir : IRest) (w : World) : Calls Tryd.prog 78 #[.int .i64 3, ctxV c r it, itemV i ir] w fun e w' => e = .returned (.int .i64 (c.p 2)) ∧ Below w.heap.size w w' := by
  have HC := box2C w c r it (.cells (itemC i ir) 69)
  have q1 := HC.p0
  have q2 := HC.p1
  have q3 := HC.p2
  have q4 := HC.p3
  have q5 := HC.p4
  have q6 := HC.p5
  have q7 := HC.p6
  have q8 := HC.p7
  have q9 := HC.c9
  have q10 := HC.c10
  have q11 := HC.comm
  have q12 := HC.exe
  have q13 := HC.c13
  have q14 := HC.c14
  clear HC
  obtain ⟨hC, hI, hP, hB⟩ := boxP w c r it i ir _ rfl
  have HB := Lib.hid hB
  have s := hP.cell 2
  clear hC hI hP hB
  go_enter Tryd.func78, Tryd.ntmps78
  go_wp2_with fail
  go_ret
  exact ⟨ret_i rfl, HB.out⟩
set_option maxHeartbeats 1000000 in
theorem rnumF4 (c : Ctx) (r : CRest) (it : Value) (i : Itm) (ir : IRest) (w : World) : Calls Tryd.prog 78 #[.int .i64 4, ctxV c r it, itemV i ir] w fun e w' => e = .returned (.int .i64 (c.p 3)) ∧ Below w.heap.size w w' := by
  have HC := box2C w c r it (.cells (itemC i ir) 69)
  have q1 := HC.p0
  have q2 := HC.p1
  have q3 := HC.p2
  have q4 := HC.p3
  have q5 := HC.p4
  have q6 := HC.p5
  have q7 := HC.p6
  have q8 := HC.p7
  have q9 := HC.c9
  have q10 := HC.c10
  have q11 := HC.comm
  have q12 := HC.exe
  have q13 := HC.c13
  have q14 := HC.c14
  clear HC
  obtain ⟨hC, hI, hP, hB⟩ := boxP w c r it i ir _ rfl
  have HB := Lib.hid hB
  have s := hP.cell 3
  clear hC hI hP hB
  go_enter Tryd.func78, Tryd.ntmps78
  go_wp2_with fail
  go_ret
  exact ⟨ret_i rfl, HB.out⟩
set_option maxHeartbeats 1000000 in
theorem rnumF5 (c : Ctx) (r : CRest) (it : Value) (i : Itm) (ir : IRest) (w : World) : Calls Tryd.prog 78 #[.int .i64 5, ctxV c r it, itemV i ir] w fun e w' => e = .returned (.int .i64 (c.p 4)) ∧ Below w.heap.size w w' := by
  have HC := box2C w c r it (.cells (itemC i ir) 69)
  have q1 := HC.p0
  have q2 := HC.p1
  have q3 := HC.p2
  have q4 := HC.p3
  have q5 := HC.p4
  have q6 := HC.p5
  have q7 := HC.p6
  have q8 := HC.p7
  have q9 := HC.c9
  have q10 := HC.c10
  have q11 := HC.comm
  have q12 := HC.exe
  have q13 := HC.c13
  have q14 := HC.c14
  clear HC
  obtain ⟨hC, hI, hP, hB⟩ := boxP w c r it i ir _ rfl
  have HB := Lib.hid hB
  have s := hP.cell 4
  clear hC hI hP hB
  go_enter Tryd.func78, Tryd.ntmps78
  go_wp2_with fail
  go_ret
  exact ⟨ret_i rfl, HB.out⟩
set_option maxHeartbeats 1000000 in
theorem rnumF6 (c : Ctx) (r : CRest) (it : Value) (i : Itm) (ir : IRest) (w : World) : Calls Tryd.prog 78 #[.int .i64 6, ctxV c r it, itemV i ir] w fun e w' => e = .returned (.int .i64 (c.p 5)) ∧ Below w.heap.size w w' := by
  have HC := box2C w c r it (.cells (itemC i ir) 69)
  have q1 := HC.p0
  have q2 := HC.p1
  have q3 := HC.p2
  have q4 := HC.p3
  have q5 := HC.p4
  have q6 := HC.p5
  have q7 := HC.p6
  have q8 := HC.p7
  have q9 := HC.c9
  have q10 := HC.c10
  have q11 := HC.comm
  have q12 := HC.exe
  have q13 := HC.c13
  have q14 := HC.c14
  clear HC
  obtain ⟨hC, hI, hP, hB⟩ := boxP w c r it i ir _ rfl
  have HB := Lib.hid hB
  have s := hP.cell 5
  clear hC hI hP hB
  go_enter Tryd.func78, Tryd.ntmps78
  go_wp2_with fail
  go_ret
  exact ⟨ret_i rfl, HB.out⟩
set_option maxHeartbeats 1000000 in
theorem rnumF7 (c : Ctx) (r : CRest) (it : Value) (i : Itm) (ir : IRest) (w : World) : Calls Tryd.prog 78 #[.int .i64 7, ctxV c r it, itemV i ir] w fun e w' => e = .returned (.int .i64 (c.p 6)) ∧ Below w.heap.size w w' := by
  have HC := box2C w c r it (.cells (itemC i ir) 69)
  have q1 := HC.p0
  have q2 := HC.p1
  have q3 := HC.p2
  have q4 := HC.p3
  have q5 := HC.p4
  have q6 := HC.p5
  have q7 := HC.p6
  have q8 := HC.p7
  have q9 := HC.c9
  have q10 := HC.c10
  have q11 := HC.comm
  have q12 := HC.exe
  have q13 := HC.c13
  have q14 := HC.c14
  clear HC
  obtain ⟨hC, hI, hP, hB⟩ := boxP w c r it i ir _ rfl
  have HB := Lib.hid hB
  have s := hP.cell 6
  clear hC hI hP hB
  go_enter Tryd.func78, Tryd.ntmps78
  go_wp2_with fail
  go_ret
  exact ⟨ret_i rfl, HB.out⟩
set_option maxHeartbeats 1000000 in
theorem rnumF8 (c : Ctx) (r : CRest) (it : Value) (i : Itm) (ir : IRest) (w : World) : Calls Tryd.prog 78 #[.int .i64 8, ctxV c r it, itemV i ir] w fun e w' => e = .returned (.int .i64 (c.p 7)) ∧ Below w.heap.size w w' := by
  have HC := box2C w c r it (.cells (itemC i ir) 69)
  have q1 := HC.p0
  have q2 := HC.p1
  have q3 := HC.p2
  have q4 := HC.p3
  have q5 := HC.p4
  have q6 := HC.p5
  have q7 := HC.p6
  have q8 := HC.p7
  have q9 := HC.c9
  have q10 := HC.c10
  have q11 := HC.comm
  have q12 := HC.exe
  have q13 := HC.c13
  have q14 := HC.c14
  clear HC
  obtain ⟨hC, hI, hP, hB⟩ := boxP w c r it i ir _ rfl
  have HB := Lib.hid hB
  have s := hP.cell 7
  clear hC hI hP hB
  go_enter Tryd.func78, Tryd.ntmps78
  go_wp2_with fail
  go_ret
  exact ⟨ret_i rfl, HB.out⟩
set_option maxHeartbeats 1000000 in
theorem rnumF9 (c : Ctx) (r : CRest) (it : Value) (i : Itm) (ir : IRest) (w : World) : Calls Tryd.prog 78 #[.int .i64 9, ctxV c r it, itemV i ir] w fun e w' => e = .returned (.int .i64 (c.a 0)) ∧ Below w.heap.size w w' := by
  have HC := box2C w c r it (.cells (itemC i ir) 69)
  have q1 := HC.p0
  have q2 := HC.p1
  have q3 := HC.p2
  have q4 := HC.p3
  have q5 := HC.p4
  have q6 := HC.p5
  have q7 := HC.p6
  have q8 := HC.p7
  have q9 := HC.c9
  have q10 := HC.c10
  have q11 := HC.comm
  have q12 := HC.exe
  have q13 := HC.c13
  have q14 := HC.c14
  clear HC
  obtain ⟨hC, hI, hP, hB⟩ := boxP w c r it i ir _ rfl
  have HB := Lib.hid hB
  have s := hC.a0
  clear hC hI hP hB
  go_enter Tryd.func78, Tryd.ntmps78
  go_wp2_with fail
  go_ret
  exact ⟨ret_i rfl, HB.out⟩
set_option maxHeartbeats 1000000 in
theorem rnumF10 (c : Ctx) (r : CRest) (it : Value) (i : Itm) (ir : IRest) (w : World) : Calls Tryd.prog 78 #[.int .i64 10, ctxV c r it, itemV i ir] w fun e w' => e = .returned (.int .i64 (c.a 1)) ∧ Below w.heap.size w w' := by
  have HC := box2C w c r it (.cells (itemC i ir) 69)
  have q1 := HC.p0
  have q2 := HC.p1
  have q3 := HC.p2
  have q4 := HC.p3
  have q5 := HC.p4
  have q6 := HC.p5
  have q7 := HC.p6
  have q8 := HC.p7
  have q9 := HC.c9
  have q10 := HC.c10
  have q11 := HC.comm
  have q12 := HC.exe
  have q13 := HC.c13
  have q14 := HC.c14
  clear HC
  obtain ⟨hC, hI, hP, hB⟩ := boxP w c r it i ir _ rfl
  have HB := Lib.hid hB
  have s := hC.a1
  clear hC hI hP hB
  go_enter Tryd.func78, Tryd.ntmps78
  go_wp2_with fail
  go_ret
  exact ⟨ret_i rfl, HB.out⟩
set_option maxHeartbeats 1000000 in
theorem rnumF11 (c : Ctx) (r : CRest) (it : Value) (i : Itm) (ir : IRest) (w : World) : Calls Tryd.prog 78 #[.int .i64 11, ctxV c r it, itemV i ir] w fun e w' => e = .returned (.int .i64 (c.a 2)) ∧ Below w.heap.size w w' := by
  have HC := box2C w c r it (.cells (itemC i ir) 69)
  have q1 := HC.p0
  have q2 := HC.p1
  have q3 := HC.p2
  have q4 := HC.p3
  have q5 := HC.p4
  have q6 := HC.p5
  have q7 := HC.p6
  have q8 := HC.p7
  have q9 := HC.c9
  have q10 := HC.c10
  have q11 := HC.comm
  have q12 := HC.exe
  have q13 := HC.c13
  have q14 := HC.c14
  clear HC
  obtain ⟨hC, hI, hP, hB⟩ := boxP w c r it i ir _ rfl
  have HB := Lib.hid hB
  have s := hC.a2
  clear hC hI hP hB
  go_enter Tryd.func78, Tryd.ntmps78
  go_wp2_with fail
  go_ret
  exact ⟨ret_i rfl, HB.out⟩
set_option maxHeartbeats 1000000 in
theorem rnumF12 (c : Ctx) (r : CRest) (it : Value) (i : Itm) (ir : IRest) (w : World) : Calls Tryd.prog 78 #[.int .i64 12, ctxV c r it, itemV i ir] w fun e w' => e = .returned (.int .i64 (c.a 3)) ∧ Below w.heap.size w w' := by
  have HC := box2C w c r it (.cells (itemC i ir) 69)
  have q1 := HC.p0
  have q2 := HC.p1
  have q3 := HC.p2
  have q4 := HC.p3
  have q5 := HC.p4
  have q6 := HC.p5
  have q7 := HC.p6
  have q8 := HC.p7
  have q9 := HC.c9
  have q10 := HC.c10
  have q11 := HC.comm
  have q12 := HC.exe
  have q13 := HC.c13
  have q14 := HC.c14
  clear HC
  obtain ⟨hC, hI, hP, hB⟩ := boxP w c r it i ir _ rfl
  have HB := Lib.hid hB
  have s := hC.a3
  clear hC hI hP hB
  go_enter Tryd.func78, Tryd.ntmps78
  go_wp2_with fail
  go_ret
  exact ⟨ret_i rfl, HB.out⟩
set_option maxHeartbeats 1000000 in
theorem rnumF15 (c : Ctx) (r : CRest) (it : Value) (i : Itm) (ir : IRest) (w : World) : Calls Tryd.prog 78 #[.int .i64 15, ctxV c r it, itemV i ir] w fun e w' => e = .returned (.int .i64 (c.ex)) ∧ Below w.heap.size w w' := by
  have HC := box2C w c r it (.cells (itemC i ir) 69)
  have q1 := HC.p0
  have q2 := HC.p1
  have q3 := HC.p2
  have q4 := HC.p3
  have q5 := HC.p4
  have q6 := HC.p5
  have q7 := HC.p6
  have q8 := HC.p7
  have q9 := HC.c9
  have q10 := HC.c10
  have q11 := HC.comm
  have q12 := HC.exe
  have q13 := HC.c13
  have q14 := HC.c14
  clear HC
  obtain ⟨hC, hI, hP, hB⟩ := boxP w c r it i ir _ rfl
  have HB := Lib.hid hB
  have s := hC.ex
  clear hC hI hP hB
  go_enter Tryd.func78, Tryd.ntmps78
  go_wp2_with fail
  go_ret
  exact ⟨ret_i rfl, HB.out⟩
set_option maxHeartbeats 1000000 in
theorem rnumF16a (c : Ctx) (r : CRest) (it : Value) (i : Itm) (ir : IRest) (hx : 0 ≤ c.ex) (w : World) : Calls Tryd.prog 78 #[.int .i64 16, ctxV c r it, itemV i ir] w fun e w' => e = .returned (.int .i64 (1)) ∧ Below w.heap.size w w' := by
  have HC := box2C w c r it (.cells (itemC i ir) 69)
  have q1 := HC.p0
  have q2 := HC.p1
  have q3 := HC.p2
  have q4 := HC.p3
  have q5 := HC.p4
  have q6 := HC.p5
  have q7 := HC.p6
  have q8 := HC.p7
  have q9 := HC.c9
  have q10 := HC.c10
  have q11 := HC.comm
  have q12 := HC.exe
  have q13 := HC.c13
  have q14 := HC.c14
  clear HC
  obtain ⟨hC, hI, hP, hB⟩ := boxP w c r it i ir _ rfl
  have HB := Lib.hid hB
  have s := hC.ex
  clear hC hI hP hB
  go_enter Tryd.func78, Tryd.ntmps78
  go_wp2_with fail
  go_ret
  exact ⟨ret_i rfl, HB.out⟩
set_option maxHeartbeats 1000000 in
theorem rnumF16b (c : Ctx) (r : CRest) (it : Value) (i : Itm) (ir : IRest) (hx : c.ex < 0) (w : World) : Calls Tryd.prog 78 #[.int .i64 16, ctxV c r it, itemV i ir] w fun e w' => e = .returned (.int .i64 (0)) ∧ Below w.heap.size w w' := by
  have HC := box2C w c r it (.cells (itemC i ir) 69)
  have q1 := HC.p0
  have q2 := HC.p1
  have q3 := HC.p2
  have q4 := HC.p3
  have q5 := HC.p4
  have q6 := HC.p5
  have q7 := HC.p6
  have q8 := HC.p7
  have q9 := HC.c9
  have q10 := HC.c10
  have q11 := HC.comm
  have q12 := HC.exe
  have q13 := HC.c13
  have q14 := HC.c14
  clear HC
  obtain ⟨hC, hI, hP, hB⟩ := boxP w c r it i ir _ rfl
  have HB := Lib.hid hB
  have s := hC.ex
  clear hC hI hP hB
  go_enter Tryd.func78, Tryd.ntmps78
  go_wp2_with fail
  go_ret
  exact ⟨ret_i rfl, HB.out⟩
set_option maxHeartbeats 1000000 in
theorem rnumF17 (c : Ctx) (r : CRest) (it : Value) (i : Itm) (ir : IRest) (w : World) : Calls Tryd.prog 78 #[.int .i64 17, ctxV c r it, itemV i ir] w fun e w' => e = .returned (.int .i64 (i.ino)) ∧ Below w.heap.size w w' := by
  have HC := box2C w c r it (.cells (itemC i ir) 69)
  have q1 := HC.p0
  have q2 := HC.p1
  have q3 := HC.p2
  have q4 := HC.p3
  have q5 := HC.p4
  have q6 := HC.p5
  have q7 := HC.p6
  have q8 := HC.p7
  have q9 := HC.c9
  have q10 := HC.c10
  have q11 := HC.comm
  have q12 := HC.exe
  have q13 := HC.c13
  have q14 := HC.c14
  clear HC
  obtain ⟨hC, hI, hP, hB⟩ := boxP w c r it i ir _ rfl
  have HB := Lib.hid hB
  have s := hI.ino
  clear hC hI hP hB
  go_enter Tryd.func78, Tryd.ntmps78
  go_wp2_with fail
  go_ret
  exact ⟨ret_i rfl, HB.out⟩
set_option maxHeartbeats 1000000 in
theorem rnumF18 (c : Ctx) (r : CRest) (it : Value) (i : Itm) (ir : IRest) (w : World) : Calls Tryd.prog 78 #[.int .i64 18, ctxV c r it, itemV i ir] w fun e w' => e = .returned (.int .i64 (i.dev)) ∧ Below w.heap.size w w' := by
  have HC := box2C w c r it (.cells (itemC i ir) 69)
  have q1 := HC.p0
  have q2 := HC.p1
  have q3 := HC.p2
  have q4 := HC.p3
  have q5 := HC.p4
  have q6 := HC.p5
  have q7 := HC.p6
  have q8 := HC.p7
  have q9 := HC.c9
  have q10 := HC.c10
  have q11 := HC.comm
  have q12 := HC.exe
  have q13 := HC.c13
  have q14 := HC.c14
  clear HC
  obtain ⟨hC, hI, hP, hB⟩ := boxP w c r it i ir _ rfl
  have HB := Lib.hid hB
  have s := hI.dev
  clear hC hI hP hB
  go_enter Tryd.func78, Tryd.ntmps78
  go_wp2_with fail
  go_ret
  exact ⟨ret_i rfl, HB.out⟩
set_option maxHeartbeats 1000000 in
theorem rnumF19 (c : Ctx) (r : CRest) (it : Value) (i : Itm) (ir : IRest) (w : World) : Calls Tryd.prog 78 #[.int .i64 19, ctxV c r it, itemV i ir] w fun e w' => e = .returned (.int .i64 (i.uid)) ∧ Below w.heap.size w w' := by
  have HC := box2C w c r it (.cells (itemC i ir) 69)
  have q1 := HC.p0
  have q2 := HC.p1
  have q3 := HC.p2
  have q4 := HC.p3
  have q5 := HC.p4
  have q6 := HC.p5
  have q7 := HC.p6
  have q8 := HC.p7
  have q9 := HC.c9
  have q10 := HC.c10
  have q11 := HC.comm
  have q12 := HC.exe
  have q13 := HC.c13
  have q14 := HC.c14
  clear HC
  obtain ⟨hC, hI, hP, hB⟩ := boxP w c r it i ir _ rfl
  have HB := Lib.hid hB
  have s := hI.uid
  clear hC hI hP hB
  go_enter Tryd.func78, Tryd.ntmps78
  go_wp2_with fail
  go_ret
  exact ⟨ret_i rfl, HB.out⟩
set_option maxHeartbeats 1000000 in
theorem rnumF20 (c : Ctx) (r : CRest) (it : Value) (i : Itm) (ir : IRest) (w : World) : Calls Tryd.prog 78 #[.int .i64 20, ctxV c r it, itemV i ir] w fun e w' => e = .returned (.int .i64 (i.gid)) ∧ Below w.heap.size w w' := by
  have HC := box2C w c r it (.cells (itemC i ir) 69)
  have q1 := HC.p0
  have q2 := HC.p1
  have q3 := HC.p2
  have q4 := HC.p3
  have q5 := HC.p4
  have q6 := HC.p5
  have q7 := HC.p6
  have q8 := HC.p7
  have q9 := HC.c9
  have q10 := HC.c10
  have q11 := HC.comm
  have q12 := HC.exe
  have q13 := HC.c13
  have q14 := HC.c14
  clear HC
  obtain ⟨hC, hI, hP, hB⟩ := boxP w c r it i ir _ rfl
  have HB := Lib.hid hB
  have s := hI.gid
  clear hC hI hP hB
  go_enter Tryd.func78, Tryd.ntmps78
  go_wp2_with fail
  go_ret
  exact ⟨ret_i rfl, HB.out⟩
set_option maxHeartbeats 1000000 in
theorem rnumF21 (c : Ctx) (r : CRest) (it : Value) (i : Itm) (ir : IRest) (w : World) : Calls Tryd.prog 78 #[.int .i64 21, ctxV c r it, itemV i ir] w fun e w' => e = .returned (.int .i64 (i.kind)) ∧ Below w.heap.size w w' := by
  have HC := box2C w c r it (.cells (itemC i ir) 69)
  have q1 := HC.p0
  have q2 := HC.p1
  have q3 := HC.p2
  have q4 := HC.p3
  have q5 := HC.p4
  have q6 := HC.p5
  have q7 := HC.p6
  have q8 := HC.p7
  have q9 := HC.c9
  have q10 := HC.c10
  have q11 := HC.comm
  have q12 := HC.exe
  have q13 := HC.c13
  have q14 := HC.c14
  clear HC
  obtain ⟨hC, hI, hP, hB⟩ := boxP w c r it i ir _ rfl
  have HB := Lib.hid hB
  have s := hI.kind
  clear hC hI hP hB
  go_enter Tryd.func78, Tryd.ntmps78
  go_wp2_with fail
  go_ret
  exact ⟨ret_i rfl, HB.out⟩
set_option maxHeartbeats 1000000 in
theorem rnumF22 (c : Ctx) (r : CRest) (it : Value) (i : Itm) (ir : IRest) (w : World) : Calls Tryd.prog 78 #[.int .i64 22, ctxV c r it, itemV i ir] w fun e w' => e = .returned (.int .i64 (c.ty)) ∧ Below w.heap.size w w' := by
  have HC := box2C w c r it (.cells (itemC i ir) 69)
  have q1 := HC.p0
  have q2 := HC.p1
  have q3 := HC.p2
  have q4 := HC.p3
  have q5 := HC.p4
  have q6 := HC.p5
  have q7 := HC.p6
  have q8 := HC.p7
  have q9 := HC.c9
  have q10 := HC.c10
  have q11 := HC.comm
  have q12 := HC.exe
  have q13 := HC.c13
  have q14 := HC.c14
  clear HC
  obtain ⟨hC, hI, hP, hB⟩ := boxP w c r it i ir _ rfl
  have HB := Lib.hid hB
  have s := hC.ty
  clear hC hI hP hB
  go_enter Tryd.func78, Tryd.ntmps78
  go_wp2_with fail
  go_ret
  exact ⟨ret_i rfl, HB.out⟩
theorem rnumberF (c : Ctx) (r : CRest) (it : Value) (i : Itm) (ir : IRest) (f : Int) (hf : 1 ≤ f ∧ f ≤ 22) (h13 : f ≠ 13) (h14 : f ≠ 14) (w : World) : Calls Tryd.prog 78 #[.int .i64 f, ctxV c r it, itemV i ir] w fun e w' => e = .returned (.int .i64 (valF c i f)) ∧ Below w.heap.size w w' := by
  have hcs : f = 1 ∨ f = 2 ∨ f = 3 ∨ f = 4 ∨ f = 5 ∨ f = 6 ∨ f = 7 ∨ f = 8 ∨ f = 9 ∨ f = 10 ∨ f = 11 ∨ f = 12 ∨ f = 15 ∨ f = 16 ∨ f = 17 ∨ f = 18 ∨ f = 19 ∨ f = 20 ∨ f = 21 ∨ f = 22 := by omega
  rcases hcs with rfl | rfl | rfl | rfl | rfl | rfl | rfl | rfl | rfl | rfl | rfl | rfl | rfl | rfl | rfl | rfl | rfl | rfl | rfl | rfl
  · have e : valF c i 1 = c.p 0 := by unfold valF; simp
    rw [e]; exact rnumF1 c r it i ir w
  · have e : valF c i 2 = c.p 1 := by unfold valF; simp
    rw [e]; exact rnumF2 c r it i ir w
  · have e : valF c i 3 = c.p 2 := by unfold valF; simp
    rw [e]; exact rnumF3 c r it i ir w
  · have e : valF c i 4 = c.p 3 := by unfold valF; simp
    rw [e]; exact rnumF4 c r it i ir w
  · have e : valF c i 5 = c.p 4 := by unfold valF; simp
    rw [e]; exact rnumF5 c r it i ir w
  · have e : valF c i 6 = c.p 5 := by unfold valF; simp
    rw [e]; exact rnumF6 c r it i ir w
  · have e : valF c i 7 = c.p 6 := by unfold valF; simp
    rw [e]; exact rnumF7 c r it i ir w
  · have e : valF c i 8 = c.p 7 := by unfold valF; simp
    rw [e]; exact rnumF8 c r it i ir w
  · have e : valF c i 9 = c.a 0 := by unfold valF; simp
    rw [e]; exact rnumF9 c r it i ir w
  · have e : valF c i 10 = c.a 1 := by unfold valF; simp
    rw [e]; exact rnumF10 c r it i ir w
  · have e : valF c i 11 = c.a 2 := by unfold valF; simp
    rw [e]; exact rnumF11 c r it i ir w
  · have e : valF c i 12 = c.a 3 := by unfold valF; simp
    rw [e]; exact rnumF12 c r it i ir w
  · have e : valF c i 15 = c.ex := by unfold valF; simp
    rw [e]; exact rnumF15 c r it i ir w
  · by_cases hx : 0 ≤ c.ex
    · have e : valF c i 16 = 1 := by unfold valF; simp [hx]
      rw [e]; exact rnumF16a c r it i ir hx w
    · have e : valF c i 16 = 0 := by unfold valF; simp [hx]
      rw [e]; exact rnumF16b c r it i ir (by omega) w
  · have e : valF c i 17 = i.ino := by unfold valF; simp
    rw [e]; exact rnumF17 c r it i ir w
  · have e : valF c i 18 = i.dev := by unfold valF; simp
    rw [e]; exact rnumF18 c r it i ir w
  · have e : valF c i 19 = i.uid := by unfold valF; simp
    rw [e]; exact rnumF19 c r it i ir w
  · have e : valF c i 20 = i.gid := by unfold valF; simp
    rw [e]; exact rnumF20 c r it i ir w
  · have e : valF c i 21 = i.kind := by unfold valF; simp
    rw [e]; exact rnumF21 c r it i ir w
  · have e : valF c i 22 = c.ty := by unfold valF; simp
    rw [e]; exact rnumF22 c r it i ir w
theorem rhasF (c : Ctx) (r : CRest) (it : Value) (f : Int) (w : World) : Calls Tryd.prog 57 #[.int .i64 f, ctxV c r it] w fun e w' => e = .returned (.bool (hasF c f)) ∧ Below w.heap.size w w' := by
  have HC : CtxB (w.alloc (.cells (ctxC c r it) 35)) w.heap.size c r it := Blk.new w _ _
  have HB := Lib.hid ((Below.refl w.heap.size w).alloc (Nat.le_refl _) (.cells (ctxC c r it) 35))
  have q0 := HC.ph
  have q1 := HC.ty
  clear HC
  by_cases h : 15 ≤ f ∧ f ≤ 21
  · have HE := Lib.hid (show hasF c f = (c.ph == 2) by rw [hasF_exit h, deq])
    go_enter Tryd.func57, Tryd.ntmps57
    go_wp2_with fail
    go_ret
    exact ⟨ret_b HE.out.symm, HB.out⟩
  · by_cases h22 : f = 22
    · subst h22
      have HE := Lib.hid (show hasF c 22 = (c.ty != 0) by rw [hasF_type]; by_cases h : c.ty = 0 <;> simp [h])
      clear h
      go_enter Tryd.func57, Tryd.ntmps57
      go_wp2_with fail
      go_ret
      exact ⟨ret_b HE.out.symm, HB.out⟩
    · have HE := Lib.hid (show hasF c f = true by unfold hasF; rw [if_neg h]; simp [h22])
      have b : (f != 22) = true := by simpa using h22
      have hc : f < 15 ∨ 21 < f := by omega
      clear h h22
      rcases hc with h | h
      all_goals
        go_enter Tryd.func57, Tryd.ntmps57
        go_wp2_with fail
        go_ret
        exact ⟨ret_b HE.out.symm, HB.out⟩
end Go.Proofs.YtnpaoepkpdileaaDoor

/- Texts of one proof, laid together. -/
import Derived.Test.YtollifnnpihfdaaGreatDoorC30
/- number, has, one of the reference. -/
namespace Go.Proofs.YtollifnnpihfdaaGreatDoor
open Go.RowKit
abbrev procC (c : Ctx) (r : CRest) : Array Value := #[.int .i64 (c.p 0), .int .i64 (c.p 1), .int .i64 (c.p 2), .int .i64 (c.p 3), .int .i64 (c.p 4), .int .i64 (c.p 5), .int .i64 (c.p 6), .int .i64 (c.p 7), .int .i64 r.d, .int .i64 r.i, .string c.comm, .string c.exe, r.o.v, .bool r.u]
abbrev zeroP : Array Value := #[.int .i64 0, .int .i64 0, .int .i64 0, .int .i64 0, .int .i64 0, .int .i64 0, .int .i64 0, .int .i64 0, .int .i64 0, .int .i64 0, .string ⟨#[]⟩, .string ⟨#[]⟩, .slice none 0 0, .bool false]
theorem proc_sz (c : Ctx) (r : CRest) : (Tryz.prog.info? 47).map (·.size) = some (procC c r).size := by show _ = some 14; kernel_rfl
attribute [local irreducible] ctxC itemC textB
theorem boxP (w : World) (c : Ctx) (r : CRest) (it : Value) (i : Itm) (ir : IRest) (W : World) (hW : W = ((w.alloc (.cells (ctxC c r it) 54)).alloc (.cells (itemC i ir) 73)).alloc (.cells (procC c r) 47)) :
    CtxB W w.heap.size c r it ∧ ItmB W (w.heap.size + 1) i ir ∧ Blk W (w.heap.size + 1 + 1) 47 (procC c r) ∧ Below w.heap.size w W := by
  subst hW
  have h3 := Blk.new ((w.alloc (.cells (ctxC c r it) 54)).alloc (.cells (itemC i ir) 73)) (procC c r) 47
  refine ⟨(box2C w c r it _).alloc _, (box2I w i ir _).alloc _, by simpa using h3, (((Below.refl _ _).alloc (Nat.le_refl _) _).alloc (by simp) _).alloc (by simp; omega) _⟩
set_option maxHeartbeats 1000000 in
theorem rnumF1 (c : Ctx) (r : CRest) (it : Value) (i : Itm) (ir : IRest) (w : World) : Calls Tryz.prog 263 #[.int .i64 1, ctxV c r it, itemV i ir] w fun e w' => e = .returned (.int .i64 (c.p 0)) ∧ Below w.heap.size w w' := by
  have HC := box2C w c r it (.cells (itemC i ir) 73)
  have q1 := HC.p0
  have q2 := HC.p1
  have q3 := HC.p2
  have q4 := HC.p3
  have q5 := HC.p4
  have q6 := HC.p5
  have q7 := HC.p6
  have q8 := HC.p7
  have q9 := HC.c9
  have q10 := HC.c10
  have q11 := HC.comm
  have q12 := HC.exe
  have q13 := HC.c13
  have q14 := HC.c14
  clear HC
  obtain ⟨hC, hI, hP, hB⟩ := boxP w c r it i ir _ rfl
  have HB := Lib.hid hB
  have s := hP.cell 0
  clear hC hI hP hB
  go_enter Tryz.func263, Tryz.ntmps263
  go_wp2_with fail
  go_ret
  exact ⟨ret_i rfl, HB.out⟩
set_option maxHeartbeats 1000000 in
theorem rnumF2 (c : Ctx) (r : CRest) (it : Value) (i : Itm) (ir : IRest) (w : World) : Calls Tryz.prog 263 #[.int .i64 2, ctxV c r it, itemV i ir] w fun e w' => e = .returned (.int .i64 (c.p 1)) ∧ Below w.heap.size w w' := by
  have HC := box2C w c r it (.cells (itemC i ir) 73)
  have q1 := HC.p0
  have q2 := HC.p1
  have q3 := HC.p2
  have q4 := HC.p3
  have q5 := HC.p4
  have q6 := HC.p5
  have q7 := HC.p6
  have q8 := HC.p7
  have q9 := HC.c9
  have q10 := HC.c10
  have q11 := HC.comm
  have q12 := HC.exe
  have q13 := HC.c13
  have q14 := HC.c14
  clear HC
  obtain ⟨hC, hI, hP, hB⟩ := boxP w c r it i ir _ rfl
  have HB := Lib.hid hB
  have s := hP.cell 1
  clear hC hI hP hB
  go_enter Tryz.func263, Tryz.ntmps263
  go_wp2_with fail
  go_ret
  exact ⟨ret_i rfl, HB.out⟩
set_option maxHeartbeats 1000000 in
theorem rnumF3 (c : Ctx) (r : CRest) (it : Value) (i : Itm) (ir : IRest) (w : World) : Calls Tryz.prog 263 #[.int .i64 3, ctxV c r it, itemV i ir] w fun e w' => e = .returned (.int .i64 (c.p 2)) ∧ Below w.heap.size w w' := by
  have HC := box2C w c r it (.cells (itemC i ir) 73)
  have q1 := HC.p0
  have q2 := HC.p1
  have q3 := HC.p2
  have q4 := HC.p3
  have q5 := HC.p4
  have q6 := HC.p5
  have q7 := HC.p6
  have q8 := HC.p7
  have q9 := HC.c9
  have q10 := HC.c10
  have q11 := HC.comm
  have q12 := HC.exe
  have q13 := HC.c13
  have q14 := HC.c14
  clear HC
  obtain ⟨hC, hI, hP, hB⟩ := boxP w c r it i ir _ rfl
  have HB := Lib.hid hB
  have s := hP.cell 2
  clear hC hI hP hB
  go_enter Tryz.func263, Tryz.ntmps263
  go_wp2_with fail
  go_ret
  exact ⟨ret_i rfl, HB.out⟩
set_option maxHeartbeats 1000000 in
theorem rnumF4 (c : Ctx) (r : CRest) (it : Value) (i : Itm) (ir : IRest) (w : World) : Calls Tryz.prog 263 #[.int .i64 4, ctxV c r it, itemV i ir] w fun e w' => e = .returned (.int .i64 (c.p 3)) ∧ Below w.heap.size w w' := by
  have HC := box2C w c r it (.cells (itemC i ir) 73)
  have q1 := HC.p0
  have q2 := HC.p1
  have q3 := HC.p2
  have q4 := HC.p3
  have q5 := HC.p4
  have q6 := HC.p5
  have q7 := HC.p6
  have q8 := HC.p7
  have q9 := HC.c9
  have q10 := HC.c10
  have q11 := HC.comm
  have q12 := HC.exe
  have q13 := HC.c13
  have q14 := HC.c14
  clear HC
  obtain ⟨hC, hI, hP, hB⟩ := boxP w c r it i ir _ rfl
  have HB := Lib.hid hB
  have s := hP.cell 3
  clear hC hI hP hB
  go_enter Tryz.func263, Tryz.ntmps263
  go_wp2_with fail
  go_ret
  exact ⟨ret_i rfl, HB.out⟩
set_option maxHeartbeats 1000000 in
theorem rnumF5 (c : Ctx) (r : CRest) (it : Value) (i : Itm) (ir : IRest) (w : World) : Calls Tryz.prog 263 #[.int .i64 5, ctxV c r it, itemV i ir] w fun e w' => e = .returned (.int .i64 (c.p 4)) ∧ Below w.heap.size w w' := by
  have HC := box2C w c r it (.cells (itemC i ir) 73)
  have q1 := HC.p0
  have q2 := HC.p1
  have q3 := HC.p2
  have q4 := HC.p3
  have q5 := HC.p4
  have q6 := HC.p5
  have q7 := HC.p6
  have q8 := HC.p7
  have q9 := HC.c9
  have q10 := HC.c10
  have q11 := HC.comm
  have q12 := HC.exe
  have q13 := HC.c13
  have q14 := HC.c14
  clear HC
  obtain ⟨hC, hI, hP, hB⟩ := boxP w c r it i ir _ rfl
  have HB := Lib.hid hB
  have s := hP.cell 4
  clear hC hI hP hB
  go_enter Tryz.func263, Tryz.ntmps263
  go_wp2_with fail
  go_ret
  exact ⟨ret_i rfl, HB.out⟩
set_option maxHeartbeats 1000000 in
theorem rnumF6 (c : Ctx) (r : CRest) (it : Value) (i : Itm) (ir : IRest) (w : World) : Calls Tryz.prog 263 #[.int .i64 6, ctxV c r it, itemV i ir] w fun e w' => e = .returned (.int .i64 (c.p 5)) ∧ Below w.heap.size w w' := by
  have HC := box2C w c r it (.cells (itemC i ir) 73)
  have q1 := HC.p0
  have q2 := HC.p1
  have q3 := HC.p2
  have q4 := HC.p3
  have q5 := HC.p4
  have q6 := HC.p5
  have q7 := HC.p6
  have q8 := HC.p7
  have q9 := HC.c9
  have q10 := HC.c10
  have q11 := HC.comm
  have q12 := HC.exe
  have q13 := HC.c13
  have q14 := HC.c14
  clear HC
  obtain ⟨hC, hI, hP, hB⟩ := boxP w c r it i ir _ rfl
  have HB := Lib.hid hB
  have s := hP.cell 5
  clear hC hI hP hB
  go_enter Tryz.func263, Tryz.ntmps263
  go_wp2_with fail
  go_ret
  exact ⟨ret_i rfl, HB.out⟩
set_option maxHeartbeats 1000000 in
theorem rnumF7 (c : Ctx) (r : CRest) (it : Value) (i : Itm) (ir : IRest) (w : World) : Calls Tryz.prog 263 #[.int .i64 7, ctxV c r it, itemV i ir] w fun e w' => e = .returned (.int .i64 (c.p 6)) ∧ Below w.heap.size w w' := by
  have HC := box2C w c r it (.cells (itemC i ir) 73)
  have q1 := HC.p0
  have q2 := HC.p1
  have q3 := HC.p2
  have q4 := HC.p3
  have q5 := HC.p4
  have q6 := HC.p5
  have q7 := HC.p6
  have q8 := HC.p7
  have q9 := HC.c9
  have q10 := HC.c10
  have q11 := HC.comm
  have q12 := HC.exe
  have q13 := HC.c13
  have q14 := HC.c14
  clear HC
  obtain ⟨hC, hI, hP, hB⟩ := boxP w c r it i ir _ rfl
  have HB := Lib.hid hB
  have s := hP.cell 6
  clear hC hI hP hB
  go_enter Tryz.func263, Tryz.ntmps263
  go_wp2_with fail
  go_ret
  exact ⟨ret_i rfl, HB.out⟩
set_option maxHeartbeats 1000000 in
theorem rnumF8 (c : Ctx) (r : CRest) (it : Value) (i : Itm) (ir : IRest) (w : World) : Calls Tryz.prog 263 #[.int .i64 8, ctxV c r it, itemV i ir] w fun e w' => e = .returned (.int .i64 (c.p 7)) ∧ Below w.heap.size w w' := by
  have HC := box2C w c r it (.cells (itemC i ir) 73)
  have q1 := HC.p0
  have q2 := HC.p1
  have q3 := HC.p2
  have q4 := HC.p3
  have q5 := HC.p4
  have q6 := HC.p5
  have q7 := HC.p6
  have q8 := HC.p7
  have q9 := HC.c9
  have q10 := HC.c10
  have q11 := HC.comm
  have q12 := HC.exe
  have q13 := HC.c13
  have q14 := HC.c14
  clear HC
  obtain ⟨hC, hI, hP, hB⟩ := boxP w c r it i ir _ rfl
  have HB := Lib.hid hB
  have s := hP.cell 7
  clear hC hI hP hB
  go_enter Tryz.func263, Tryz.ntmps263
  go_wp2_with fail
  go_ret
  exact ⟨ret_i rfl, HB.out⟩
set_option maxHeartbeats 1000000 in
theorem rnumF9 (c : Ctx) (r : CRest) (it : Value) (i : Itm) (ir : IRest) (w : World) : Calls Tryz.prog 263 #[.int .i64 9, ctxV c r it, itemV i ir] w fun e w' => e = .returned (.int .i64 (c.a 0)) ∧ Below w.heap.size w w' := by
  have HC := box2C w c r it (.cells (itemC i ir) 73)
  have q1 := HC.p0
  have q2 := HC.p1
  have q3 := HC.p2
  have q4 := HC.p3
  have q5 := HC.p4
  have q6 := HC.p5
  have q7 := HC.p6
  have q8 := HC.p7
  have q9 := HC.c9
  have q10 := HC.c10
  have q11 := HC.comm
  have q12 := HC.exe
  have q13 := HC.c13
  have q14 := HC.c14
  clear HC
  obtain ⟨hC, hI, hP, hB⟩ := boxP w c r it i ir _ rfl
  have HB := Lib.hid hB
  have s := hC.a0
  clear hC hI hP hB
  go_enter Tryz.func263, Tryz.ntmps263
  go_wp2_with fail
  go_ret
  exact ⟨ret_i rfl, HB.out⟩
set_option maxHeartbeats 1000000 in
theorem rnumF10 (c : Ctx) (r : CRest) (it : Value) (i : Itm) (ir : IRest) (w : World) : Calls Tryz.prog 263 #[.int .i64 10, ctxV c r it, itemV i ir] w fun e w' => e = .returned (.int .i64 (c.a 1)) ∧ Below w.heap.size w w' := by
  have HC := box2C w c r it (.cells (itemC i ir) 73)
  have q1 := HC.p0
  have q2 := HC.p1
  have q3 := HC.p2
  have q4 := HC.p3
  have q5 := HC.p4
  have q6 := HC.p5
  have q7 := HC.p6
  have q8 := HC.p7
  have q9 := HC.c9
  have q10 := HC.c10
  have q11 := HC.comm
  have q12 := HC.exe
  have q13 := HC.c13
  have q14 := HC.c14
  clear HC
  obtain ⟨hC, hI, hP, hB⟩ := boxP w c r it i ir _ rfl
  have HB := Lib.hid hB
  have s := hC.a1
  clear hC hI hP hB
  go_enter Tryz.func263, Tryz.ntmps263
  go_wp2_with fail
  go_ret
  exact ⟨ret_i rfl, HB.out⟩
set_option maxHeartbeats 1000000 in
theorem rnumF11 (c : Ctx) (r : CRest) (it : Value) (i : Itm) (ir : IRest) (w : World) : Calls Tryz.prog 263 #[.int .i64 11, ctxV c r it, itemV i ir] w fun e w' => e = .returned (.int .i64 (c.a 2)) ∧ Below w.heap.size w w' := by
  have HC := box2C w c r it (.cells (itemC i ir) 73)
  have q1 := HC.p0
  have q2 := HC.p1
  have q3 := HC.p2
  have q4 := HC.p3
  have q5 := HC.p4
  have q6 := HC.p5
  have q7 := HC.p6
  have q8 := HC.p7
  have q9 := HC.c9
  have q10 := HC.c10
  have q11 := HC.comm
  have q12 := HC.exe
  have q13 := HC.c13
  have q14 := HC.c14
  clear HC
  obtain ⟨hC, hI, hP, hB⟩ := boxP w c r it i ir _ rfl
  have HB := Lib.hid hB
  have s := hC.a2
  clear hC hI hP hB
  go_enter Tryz.func263, Tryz.ntmps263
  go_wp2_with fail
  go_ret
  exact ⟨ret_i rfl, HB.out⟩
set_option maxHeartbeats 1000000 in
theorem rnumF12 (c : Ctx) (r : CRest) (it : Value) (i : Itm) (ir : IRest) (w : World) : Calls Tryz.prog 263 #[.int .i64 12, ctxV c r it, itemV i ir] w fun e w' => e = .returned (.int .i64 (c.a 3)) ∧ Below w.heap.size w w' := by
  have HC := box2C w c r it (.cells (itemC i ir) 73)
  have q1 := HC.p0
  have q2 := HC.p1
  have q3 := HC.p2
  have q4 := HC.p3
  have q5 := HC.p4
  have q6 := HC.p5
  have q7 := HC.p6
  have q8 := HC.p7
  have q9 := HC.c9
  have q10 := HC.c10
  have q11 := HC.comm
  have q12 := HC.exe
  have q13 := HC.c13
  have q14 := HC.c14
  clear HC
  obtain ⟨hC, hI, hP, hB⟩ := boxP w c r it i ir _ rfl
  have HB := Lib.hid hB
  have s := hC.a3
  clear hC hI hP hB
  go_enter Tryz.func263, Tryz.ntmps263
  go_wp2_with fail
  go_ret
  exact ⟨ret_i rfl, HB.out⟩
set_option maxHeartbeats 1000000 in
theorem rnumF15 (c : Ctx) (r : CRest) (it : Value) (i : Itm) (ir : IRest) (w : World) : Calls Tryz.prog 263 #[.int .i64 15, ctxV c r it, itemV i ir] w fun e w' => e = .returned (.int .i64 (c.ex)) ∧ Below w.heap.size w w' := by
  have HC := box2C w c r it (.cells (itemC i ir) 73)
  have q1 := HC.p0
  have q2 := HC.p1
  have q3 := HC.p2
  have q4 := HC.p3
  have q5 := HC.p4
  have q6 := HC.p5
  have q7 := HC.p6
  have q8 := HC.p7
  have q9 := HC.c9
  have q10 := HC.c10
  have q11 := HC.comm
  have q12 := HC.exe
  have q13 := HC.c13
  have q14 := HC.c14
  clear HC
  obtain ⟨hC, hI, hP, hB⟩ := boxP w c r it i ir _ rfl
  have HB := Lib.hid hB
  have s := hC.ex
  clear hC hI hP hB
  go_enter Tryz.func263, Tryz.ntmps263
  go_wp2_with fail
  go_ret
  exact ⟨ret_i rfl, HB.out⟩
set_option maxHeartbeats 1000000 in
theorem rnumF16a (c : Ctx) (r : CRest) (it : Value) (i : Itm) (ir : IRest) (hx : 0 ≤ c.ex) (w : World) : Calls Tryz.prog 263 #[.int .i64 16, ctxV c r it, itemV i ir] w fun e w' => e = .returned (.int .i64 (1)) ∧ Below w.heap.size w w' := by
  have HC := box2C w c r it (.cells (itemC i ir) 73)
  have q1 := HC.p0
  have q2 := HC.p1
  have q3 := HC.p2
  have q4 := HC.p3
  have q5 := HC.p4
  have q6 := HC.p5
  have q7 := HC.p6
  have q8 := HC.p7
  have q9 := HC.c9
  have q10 := HC.c10
  have q11 := HC.comm
  have q12 := HC.exe
  have q13 := HC.c13
  have q14 := HC.c14
  clear HC
  obtain ⟨hC, hI, hP, hB⟩ := boxP w c r it i ir _ rfl
  have HB := Lib.hid hB
  have s := hC.ex
  clear hC hI hP hB
  go_enter Tryz.func263, Tryz.ntmps263
  go_wp2_with fail
  go_ret
  exact ⟨ret_i rfl, HB.out⟩
set_option maxHeartbeats 1000000 in
theorem rnumF16b (c : Ctx) (r : CRest) (it : Value) (i : Itm) (ir : IRest) (hx : c.ex < 0) (w : World) : Calls Tryz.prog 263 #[.int .i64 16, ctxV c r it, itemV i ir] w fun e w' => e = .returned (.int .i64 (0)) ∧ Below w.heap.size w w' := by
  have HC := box2C w c r it (.cells (itemC i ir) 73)
  have q1 := HC.p0
  have q2 := HC.p1
  have q3 := HC.p2
  have q4 := HC.p3
  have q5 := HC.p4
  have q6 := HC.p5
  have q7 := HC.p6
  have q8 := HC.p7
  have q9 := HC.c9
  have q10 := HC.c10
  have q11 := HC.comm
  have q12 := HC.exe
  have q13 := HC.c13
  have q14 := HC.c14
  clear HC
  obtain ⟨hC, hI, hP, hB⟩ := boxP w c r it i ir _ rfl
  have HB := Lib.hid hB
  have s := hC.ex
  clear hC hI hP hB
  go_enter Tryz.func263, Tryz.ntmps263
  go_wp2_with fail
  go_ret
  exact ⟨ret_i rfl, HB.out⟩
set_option maxHeartbeats 1000000 in
theorem rnumF17 (c : Ctx) (r : CRest) (it : Value) (i : Itm) (ir : IRest) (w : World) : Calls Tryz.prog 263 #[.int .i64 17, ctxV c r it, itemV i ir] w fun e w' => e = .returned (.int .i64 (i.ino)) ∧ Below w.heap.size w w' := by
  have HC := box2C w c r it (.cells (itemC i ir) 73)
  have q1 := HC.p0
  have q2 := HC.p1
  have q3 := HC.p2
  have q4 := HC.p3
  have q5 := HC.p4
  have q6 := HC.p5
  have q7 := HC.p6
  have q8 := HC.p7
  have q9 := HC.c9
  have q10 := HC.c10
  have q11 := HC.comm
  have q12 := HC.exe
  have q13 := HC.c13
  have q14 := HC.c14
  clear HC
  obtain ⟨hC, hI, hP, hB⟩ := boxP w c r it i ir _ rfl
  have HB := Lib.hid hB
  have s := hI.ino
  clear hC hI hP hB
  go_enter Tryz.func263, Tryz.ntmps263
  go_wp2_with fail
  go_ret
  exact ⟨ret_i rfl, HB.out⟩
set_option maxHeartbeats 1000000 in
theorem rnumF18 (c : Ctx) (r : CRest) (it : Value) (i : Itm) (ir : IRest) (w : World) : Calls Tryz.prog 263 #[.int .i64 18, ctxV c r it, itemV i ir] w fun e w' => e = .returned (.int .i64 (i.dev)) ∧ Below w.heap.size w w' := by
  have HC := box2C w c r it (.cells (itemC i ir) 73)
  have q1 := HC.p0
  have q2 := HC.p1
  have q3 := HC.p2
  have q4 := HC.p3
  have q5 := HC.p4
  have q6 := HC.p5
  have q7 := HC.p6
  have q8 := HC.p7
  have q9 := HC.c9
  have q10 := HC.c10
  have q11 := HC.comm
  have q12 := HC.exe
  have q13 := HC.c13
  have q14 := HC.c14
  clear HC
  obtain ⟨hC, hI, hP, hB⟩ := boxP w c r it i ir _ rfl
  have HB := Lib.hid hB
  have s := hI.dev
  clear hC hI hP hB
  go_enter Tryz.func263, Tryz.ntmps263
  go_wp2_with fail
  go_ret
  exact ⟨ret_i rfl, HB.out⟩
set_option maxHeartbeats 1000000 in
theorem rnumF19 (c : Ctx) (r : CRest) (it : Value) (i : Itm) (ir : IRest) (w : World) : Calls Tryz.prog 263 #[.int .i64 19, ctxV c r it, itemV i ir] w fun e w' => e = .returned (.int .i64 (i.uid)) ∧ Below w.heap.size w w' := by
  have HC := box2C w c r it (.cells (itemC i ir) 73)
  have q1 := HC.p0
  have q2 := HC.p1
  have q3 := HC.p2
  have q4 := HC.p3
  have q5 := HC.p4
  have q6 := HC.p5
  have q7 := HC.p6
  have q8 := HC.p7
  have q9 := HC.c9
  have q10 := HC.c10
  have q11 := HC.comm
  have q12 := HC.exe
  have q13 := HC.c13
  have q14 := HC.c14
  clear HC
  obtain ⟨hC, hI, hP, hB⟩ := boxP w c r it i ir _ rfl
  have HB := Lib.hid hB
  have s := hI.uid
  clear hC hI hP hB
  go_enter Tryz.func263, Tryz.ntmps263
  go_wp2_with fail
  go_ret
  exact ⟨ret_i rfl, HB.out⟩
set_option maxHeartbeats 1000000 in
theorem rnumF20 (c : Ctx) (r : CRest) (it : Value) (i : Itm) (ir : IRest) (w : World) : Calls Tryz.prog 263 #[.int .i64 20, ctxV c r it, itemV i ir] w fun e w' => e = .returned (.int .i64 (i.gid)) ∧ Below w.heap.size w w' := by
  have HC := box2C w c r it (.cells (itemC i ir) 73)
  have q1 := HC.p0
  have q2 := HC.p1
  have q3 := HC.p2
  have q4 := HC.p3
  have q5 := HC.p4
  have q6 := HC.p5
  have q7 := HC.p6
  have q8 := HC.p7
  have q9 := HC.c9
  have q10 := HC.c10
  have q11 := HC.comm
  have q12 := HC.exe
  have q13 := HC.c13
  have q14 := HC.c14
  clear HC
  obtain ⟨hC, hI, hP, hB⟩ := boxP w c r it i ir _ rfl
  have HB := Lib.hid hB
  have s := hI.gid
  clear hC hI hP hB
  go_enter Tryz.func263, Tryz.ntmps263
  go_wp2_with fail
  go_ret
  exact ⟨ret_i rfl, HB.out⟩
set_option maxHeartbeats 1000000 in
theorem rnumF21 (c : Ctx) (r : CRest) (it : Value) (i : Itm) (ir : IRest) (w : World) : Calls Tryz.prog 263 #[.int .i64 21, ctxV c r it, itemV i ir] w fun e w' => e = .returned (.int .i64 (i.kind)) ∧ Below w.heap.size w w' := by
  have HC := box2C w c r it (.cells (itemC i ir) 73)
  have q1 := HC.p0
  have q2 := HC.p1
  have q3 := HC.p2
  have q4 := HC.p3
  have q5 := HC.p4
  have q6 := HC.p5
  have q7 := HC.p6
  have q8 := HC.p7
  have q9 := HC.c9
  have q10 := HC.c10
  have q11 := HC.comm
  have q12 := HC.exe
  have q13 := HC.c13
  have q14 := HC.c14
  clear HC
  obtain ⟨hC, hI, hP, hB⟩ := boxP w c r it i ir _ rfl
  have HB := Lib.hid hB
  have s := hI.kind
  clear hC hI hP hB
  go_enter Tryz.func263, Tryz.ntmps263
  go_wp2_with fail
  go_ret
  exact ⟨ret_i rfl, HB.out⟩
set_option maxHeartbeats 1000000 in
theorem rnumF22 (c : Ctx) (r : CRest) (it : Value) (i : Itm) (ir : IRest) (w : World) : Calls Tryz.prog 263 #[.int .i64 22, ctxV c r it, itemV i ir] w fun e w' => e = .returned (.int .i64 (c.ty)) ∧ Below w.heap.size w w' := by
  have HC := box2C w c r it (.cells (itemC i ir) 73)
  have q1 := HC.p0
  have q2 := HC.p1
  have q3 := HC.p2
  have q4 := HC.p3
  have q5 := HC.p4
  have q6 := HC.p5
  have q7 := HC.p6
  have q8 := HC.p7
  have q9 := HC.c9
  have q10 := HC.c10
  have q11 := HC.comm
  have q12 := HC.exe
  have q13 := HC.c13
  have q14 := HC.c14
  clear HC
  obtain ⟨hC, hI, hP, hB⟩ := boxP w c r it i ir _ rfl
  have HB := Lib.hid hB
  have s := hC.ty
  clear hC hI hP hB
  go_enter Tryz.func263, Tryz.ntmps263
  go_wp2_with fail
  go_ret
  exact ⟨ret_i rfl, HB.out⟩
theorem rnumberF (c : Ctx) (r : CRest) (it : Value) (i : Itm) (ir : IRest) (f : Int) (hf : 1 ≤ f ∧ f ≤ 22) (h13 : f ≠ 13) (h14 : f ≠ 14) (w : World) : Calls Tryz.prog 263 #[.int .i64 f, ctxV c r it, itemV i ir] w fun e w' => e = .returned (.int .i64 (valF c i f)) ∧ Below w.heap.size w w' := by
  have hcs : f = 1 ∨ f = 2 ∨ f = 3 ∨ f = 4 ∨ f = 5 ∨ f = 6 ∨ f = 7 ∨ f = 8 ∨ f = 9 ∨ f = 10 ∨ f = 11 ∨ f = 12 ∨ f = 15 ∨ f = 16 ∨ f = 17 ∨ f = 18 ∨ f = 19 ∨ f = 20 ∨ f = 21 ∨ f = 22 := by omega
  rcases hcs with rfl | rfl | rfl | rfl | rfl | rfl | rfl | rfl | rfl | rfl | rfl | rfl | rfl | rfl | rfl | rfl | rfl | rfl | rfl | rfl
  · have e : valF c i 1 = c.p 0 := by unfold valF; simp
    rw [e]; exact rnumF1 c r it i ir w
  · have e : valF c i 2 = c.p 1 := by unfold valF; simp
    rw [e]; exact rnumF2 c r it i ir w
  · have e : valF c i 3 = c.p 2 := by unfold valF; simp
    rw [e]; exact rnumF3 c r it i ir w
  · have e : valF c i 4 = c.p 3 := by unfold valF; simp
    rw [e]; exact rnumF4 c r it i ir w
  · have e : valF c i 5 = c.p 4 := by unfold valF; simp
    rw [e]; exact rnumF5 c r it i ir w
  · have e : valF c i 6 = c.p 5 := by unfold valF; simp
    rw [e]; exact rnumF6 c r it i ir w
  · have e : valF c i 7 = c.p 6 := by unfold valF; simp
    rw [e]; exact rnumF7 c r it i ir w
  · have e : valF c i 8 = c.p 7 := by unfold valF; simp
    rw [e]; exact rnumF8 c r it i ir w
  · have e : valF c i 9 = c.a 0 := by unfold valF; simp
    rw [e]; exact rnumF9 c r it i ir w
  · have e : valF c i 10 = c.a 1 := by unfold valF; simp
    rw [e]; exact rnumF10 c r it i ir w
  · have e : valF c i 11 = c.a 2 := by unfold valF; simp
    rw [e]; exact rnumF11 c r it i ir w
  · have e : valF c i 12 = c.a 3 := by unfold valF; simp
    rw [e]; exact rnumF12 c r it i ir w
  · have e : valF c i 15 = c.ex := by unfold valF; simp
    rw [e]; exact rnumF15 c r it i ir w
  · by_cases hx : 0 ≤ c.ex
    · have e : valF c i 16 = 1 := by unfold valF; simp [hx]
      rw [e]; exact rnumF16a c r it i ir hx w
    · have e : valF c i 16 = 0 := by unfold valF; simp [hx]
      rw [e]; exact rnumF16b c r it i ir (by omega) w
  · have e : valF c i 17 = i.ino := by unfold valF; simp
    rw [e]; exact rnumF17 c r it i ir w
  · have e : valF c i 18 = i.dev := by unfold valF; simp
    rw [e]; exact rnumF18 c r it i ir w
  · have e : valF c i 19 = i.uid := by unfold valF; simp
    rw [e]; exact rnumF19 c r it i ir w
  · have e : valF c i 20 = i.gid := by unfold valF; simp
    rw [e]; exact rnumF20 c r it i ir w
  · have e : valF c i 21 = i.kind := by unfold valF; simp
    rw [e]; exact rnumF21 c r it i ir w
  · have e : valF c i 22 = c.ty := by unfold valF; simp
    rw [e]; exact rnumF22 c r it i ir w
theorem rhasF (c : Ctx) (r : CRest) (it : Value) (f : Int) (w : World) : Calls Tryz.prog 235 #[.int .i64 f, ctxV c r it] w fun e w' => e = .returned (.bool (hasF c f)) ∧ Below w.heap.size w w' := by
  have HC : CtxB (w.alloc (.cells (ctxC c r it) 54)) w.heap.size c r it := Blk.new w _ _
  have HB := Lib.hid ((Below.refl w.heap.size w).alloc (Nat.le_refl _) (.cells (ctxC c r it) 54))
  have q0 := HC.ph
  have q1 := HC.ty
  clear HC
  by_cases h : 15 ≤ f ∧ f ≤ 21
  · have HE := Lib.hid (show hasF c f = (c.ph == 2) by rw [hasF_exit h, deq])
    go_enter Tryz.func235, Tryz.ntmps235
    go_wp2_with fail
    go_ret
    exact ⟨ret_b HE.out.symm, HB.out⟩
  · by_cases h22 : f = 22
    · subst h22
      have HE := Lib.hid (show hasF c 22 = (c.ty != 0) by rw [hasF_type]; by_cases h : c.ty = 0 <;> simp [h])
      clear h
      go_enter Tryz.func235, Tryz.ntmps235
      go_wp2_with fail
      go_ret
      exact ⟨ret_b HE.out.symm, HB.out⟩
    · have HE := Lib.hid (show hasF c f = true by unfold hasF; rw [if_neg h]; simp [h22])
      have b : (f != 22) = true := by simpa using h22
      have hc : f < 15 ∨ 21 < f := by omega
      clear h h22
      rcases hc with h | h
      all_goals
        go_enter Tryz.func235, Tryz.ntmps235
        go_wp2_with fail
        go_ret
        exact ⟨ret_b HE.out.symm, HB.out⟩
end Go.Proofs.YtollifnnpihfdaaGreatDoor
/- The source of numbers of package kauditmake: Clean, Identities. -/
namespace Go.Proofs.YtollifnnpihfdaaGreatDoor
open Go.RowKit
set_option maxHeartbeats 1000000 in
theorem src_clean (w : World) (base g : Nat) (b : Int) (h : SrcOk w base g b) (hb : b ≤ 100000000000000) :
    Calls Tryz.prog 76 #[.pointer (some ⟨g, 0, none⟩)] w (SPost w base g (b + 4) 6) := by
  have H := Lib.hid h
  have HB := Lib.hid hb
  have hlt0 : g < w.heap.size := src_lt h
  clear h hb
  go_enter Tryz.func76, Tryz.ntmps76
  go_wp2_with fail
  refine (src_pick _ base g w.heap.size b 5 1 3 _ 3 (0, 0) (H.out.alloc _) (by have := HB.out; omega) (heap_alloc_new w _) (by omega) rfl (by omega) (by omega) rfl).mono ?_
  rintro e w1 ⟨x, rfl, hx0, hx1, hs, hg⟩
  obtain ⟨k0, rfl⟩ := Int.eq_ofNat_of_zero_le (show 0 ≤ x by omega)
  have HS := Lib.hid hs
  have hgf := (only_alloc (World.grownBy.refl w (some g)) (.cells #[.int .i64 1, .int .i64 1, .int .i64 2, .int .i64 2, .int .i64 3] 3)).trans hg
  clear hs hg
  go_wp2_with fail
  go_loopw [3, 4] (fun v i wr => ∃ (T : ByteArray) (k : Nat), v = .string T ∧ i = .int .i64 (k : Int) ∧ T.size + 2 * k ≤ 6 ∧ w.grownBy wr (some g) ∧ Hid (SrcOk wr base g (b + 4 - k))) (fun _ i _ => (intOf i).toNat)
  case atStart => exact ⟨⟨#[]⟩, k0, rfl, rfl, by show 0 + 2 * k0 ≤ 6; omega, hgf, HS.out.more (by omega)⟩
  case round =>
    obtain ⟨T, k, rfl, rfl, hT, hgr, hsr⟩ := hrel
    clear hgf HS hx0 hx1
    by_cases hk : 0 < k
    · have hk1 : (0 : Int) < (k : Int) := by omega
      have hT4 : T.size ≤ 6 := by omega
      have hlt : g < wr.heap.size := src_lt hsr.out
      go_wp2_with fail
      refine (src_word _ base g wr.heap.size (b + 4 - k) 5 1 _ 9 (0, 0) (hsr.out.alloc _) (by have := HB.out; omega) (heap_alloc_new wr _) (by omega) rfl (by omega) (by omega) rfl).mono ?_
      rintro e w2 ⟨y, rfl, hym, hs2, hg2⟩
      have HS2 := Lib.hid hs2
      have hgf := (only_alloc hgr _).trans hg2
      have z1 : ((⟨#[47]⟩ : ByteArray) ++ y).size ≤ 2 := by rw [ByteArray.size_append]; show 1 + y.size ≤ 2; omega
      clear hs2 hg2
      go_wp2_with fail
      go_roundw
      case rel => exact ⟨_, k - 1, rfl, by go_num, by rw [ByteArray.size_append]; omega, hgf, HS2.out.more (by omega)⟩
      case measure => simp [intOf]; omega
    · go_wp2_with fail
      go_ret
      exact ⟨_, rfl, by omega, hsr.out.more (by omega), hgr⟩
/-- What Identities makes. -/
abbrev idC (p : Nat → Int) (comm exe : ByteArray) (au : Bool) : Array Value := #[.int .i64 (p 0), .int .i64 (p 1), .int .i64 (p 2), .int .i64 (p 3), .int .i64 (p 4), .int .i64 (p 5), .int .i64 (p 6), .int .i64 (p 7), .int .i64 0, .int .i64 0, .string comm, .string exe, .slice none 0 0, .bool au]
def IdPost (w : World) (base g : Nat) (b : Int) (e : Ending) (w' : World) : Prop := ∃ (p : Nat → Int) (comm exe : ByteArray) (au : Bool), e = .returned (.agg (idC p comm exe au)) ∧ comm.size ≤ 5 ∧ exe.size ≤ 5 ∧ SrcOk w' base g b ∧ w.grownBy w' (some g)
def pOf (a b c d e f g h : Int) : Nat → Int := fun j => if j = 0 then a else if j = 1 then b else if j = 2 then c else if j = 3 then d else if j = 4 then e else if j = 5 then f else if j = 6 then g else h
theorem id_one (p : Nat → Int) (comm exe : ByteArray) (au : Bool) : (idC p comm exe au).all (·.oneCell') = true := by simp [Value.oneCell']
theorem id_sz (p : Nat → Int) (comm exe : ByteArray) (au : Bool) : (Tryz.prog.info? 47).map (·.size) = some (idC p comm exe au).size := by show _ = some 14; kernel_rfl
theorem id_ret {f : FuncId} {fn : Func} (_hf : Tryz.prog.funcs[f]? = some fn) (h : fn.results = #[.cell 2 47]) (tmps : Array Value) (w : World) (g : Nat) (cs : Array Value) (hp : tmps.getD 2 undef = .pointer (some ⟨g, 0, none⟩)) (hg : Blk w g 47 cs) (h5 : cs.size = 14) :
    (results fn tmps).run Tryz.prog w = .ok (.agg cs) w :=
  results_cell_row h tmps w g _ cs (0, 0) _ hp hg Tryz.underlying47 rfl (by rw [h5]; exact id_sz (fun _ => 0) ⟨#[]⟩ ⟨#[]⟩ false)
/-- What the making keeps: the source, the result's block, the list of identities. -/
structure I0 (w wr : World) (base g : Nat) (b : Int) : Prop where
  only : w.grownBy wr (some g)
  src : SrcOk wr base g b
  rb : Blk wr w.heap.size 47 zeroP
  ids : Blk wr (w.heap.size + 1) 3 #[.int .i64 0, .int .i64 0, .int .i64 5, .int .i64 7, .int .i64 1000, .int .i64 4294967295]
  h3 : g < w.heap.size
  h4 : base ≤ w.heap.size
theorem I0.alloc {w wr : World} {base g : Nat} {b : Int} (h : I0 w wr base g b) (o : Obj) : I0 w (wr.alloc o) base g b := ⟨only_alloc h.only o, h.src.alloc o, h.rb.alloc o, h.ids.alloc o, h.h3, h.h4⟩
theorem I0.step {w wr w' : World} {base g : Nat} {b b' : Int} (h : I0 w wr base g b) (hs : SrcOk w' base g b') (hg : wr.grownBy w' (some g)) : I0 w w' base g b' := ⟨h.only.trans hg, hs, h.rb.grown hg (fun e => by injection e with e; have := h.h3; omega), h.ids.grown hg (fun e => by injection e with e; have := h.h3; omega), h.h3, h.h4⟩
set_option maxRecDepth 100000 in
set_option maxHeartbeats 8000000 in
theorem src_ident (w : World) (base g : Nat) (b : Int) (h : SrcOk w base g b) (hb : b ≤ 100000000000000) :
    Calls Tryz.prog 60 #[.pointer (some ⟨g, 0, none⟩)] w (IdPost w base g (b + 11)) := by
  have HB := Lib.hid hb
  have hlt0 : g < w.heap.size := src_lt h
  have hbase : base ≤ w.heap.size := by have := h.1; omega
  have st0 : I0 w ((w.alloc (.cells zeroP 47)).alloc (.cells #[.int .i64 0, .int .i64 0, .int .i64 5, .int .i64 7, .int .i64 1000, .int .i64 4294967295] 3)) base g b := ⟨only_alloc (only_alloc (World.grownBy.refl w (some g)) _) _, (h.alloc _).alloc _, (Blk.new w _ _).alloc _, by have := Blk.new (w.alloc (.cells zeroP 47)) #[.int .i64 0, .int .i64 0, .int .i64 5, .int .i64 7, .int .i64 1000, .int .i64 4294967295] 3; simpa using this, hlt0, hbase⟩
  clear h hb
  go_enter Tryz.func60, Tryz.ntmps60
  go_wp2_with fail
  refine (src_range _ base g (b) 1 4 st0.src (by have := HB.out; omega) (by omega) (by omega) (by omega)).mono ?_
  rintro e w1 ⟨x1, rfl, x1a, x1b, hs, hg⟩
  have st1 := st0.step hs hg
  clear hs hg st0
  go_wp2_with fail
  refine (src_n _ base g (b + 1) 3 st1.src (by have := HB.out; omega) (by omega) (by omega)).mono ?_
  rintro e w2 ⟨x2, rfl, x2a, x2b, hs, hg⟩
  have st2 := st1.step hs hg
  clear hs hg st1
  go_wp2_with fail
  refine (src_pick _ base g (w.heap.size + 1) (b + 1 + 1) 6 0 4294967295 _ 3 (0, 0) st2.src (by have := HB.out; omega) st2.ids (by omega) rfl (by omega) (by omega) rfl).mono ?_
  rintro e w3 ⟨x3, rfl, x3a, x3b, hs, hg⟩
  have st3 := st2.step hs hg
  clear hs hg st2
  go_wp2_with fail
  refine (src_pick _ base g (w.heap.size + 1) (b + 1 + 1 + 1) 6 0 4294967295 _ 3 (0, 0) st3.src (by have := HB.out; omega) st3.ids (by omega) rfl (by omega) (by omega) rfl).mono ?_
  rintro e w4 ⟨x4, rfl, x4a, x4b, hs, hg⟩
  have st4 := st3.step hs hg
  clear hs hg st3
  go_wp2_with fail
  refine (src_pick _ base g (w.heap.size + 1) (b + 1 + 1 + 1 + 1) 6 0 4294967295 _ 3 (0, 0) st4.src (by have := HB.out; omega) st4.ids (by omega) rfl (by omega) (by omega) rfl).mono ?_
  rintro e w5 ⟨x5, rfl, x5a, x5b, hs, hg⟩
  have st5 := st4.step hs hg
  clear hs hg st4
  go_wp2_with fail
  refine (src_pick _ base g (w.heap.size + 1) (b + 1 + 1 + 1 + 1 + 1) 6 0 4294967295 _ 3 (0, 0) st5.src (by have := HB.out; omega) st5.ids (by omega) rfl (by omega) (by omega) rfl).mono ?_
  rintro e w6 ⟨x6, rfl, x6a, x6b, hs, hg⟩
  have st6 := st5.step hs hg
  clear hs hg st5
  go_wp2_with fail
  refine (src_pick _ base g (w.heap.size + 1) (b + 1 + 1 + 1 + 1 + 1 + 1) 6 0 4294967295 _ 3 (0, 0) st6.src (by have := HB.out; omega) st6.ids (by omega) rfl (by omega) (by omega) rfl).mono ?_
  rintro e w7 ⟨x7, rfl, x7a, x7b, hs, hg⟩
  have st7 := st6.step hs hg
  clear hs hg st6
  go_wp2_with fail
  refine (src_pick _ base g (w.heap.size + 1) (b + 1 + 1 + 1 + 1 + 1 + 1 + 1) 6 0 4294967295 _ 3 (0, 0) st7.src (by have := HB.out; omega) st7.ids (by omega) rfl (by omega) (by omega) rfl).mono ?_
  rintro e w8 ⟨x8, rfl, x8a, x8b, hs, hg⟩
  have st8 := st7.step hs hg
  clear hs hg st7
  go_wp2_with fail
  refine (src_word _ base g w8.heap.size (b + 1 + 1 + 1 + 1 + 1 + 1 + 1 + 1) 3 5 _ 9 (0, 0) (st8.src.alloc _) (by have := HB.out; omega) (heap_alloc_new w8 _) (by have := src_lt st8.src; omega) rfl (by omega) (by omega) rfl).mono ?_
  rintro e w9 ⟨x9, rfl, x9a, hs, hg⟩
  have st9 := (st8.alloc (.cells #[.string ⟨#[105, 110, 105, 116]⟩, .string ⟨#[97]⟩, .string ⟨#[98]⟩] 9)).step hs hg
  clear hs hg st8
  go_wp2_with fail
  refine (src_word _ base g w9.heap.size (b + 1 + 1 + 1 + 1 + 1 + 1 + 1 + 1 + 1) 3 5 _ 9 (0, 0) (st9.src.alloc _) (by have := HB.out; omega) (heap_alloc_new w9 _) (by have := src_lt st9.src; omega) rfl (by omega) (by omega) rfl).mono ?_
  rintro e w10 ⟨x10, rfl, x10a, hs, hg⟩
  have st10 := (st9.alloc (.cells #[.string ⟨#[47, 105, 110, 105, 116]⟩, .string ⟨#[47, 97]⟩, .string ⟨#[]⟩] 9)).step hs hg
  clear hs hg st9
  go_wp2_with fail
  refine (src_n _ base g (b + 1 + 1 + 1 + 1 + 1 + 1 + 1 + 1 + 1 + 1) 8 st10.src (by have := HB.out; omega) (by omega) (by omega)).mono ?_
  rintro e w11 ⟨x11, rfl, x11a, x11b, hs, hg⟩
  have st11 := st10.step hs hg
  clear hs hg st10
  have HRB := Lib.hid st11.rb
  go_wp2_with ((with_reducible refine store_blk ?_ 47 (.tmp 2) (.tmp 36) ?_ HRB.out (idC (pOf x1 x2 x3 x4 x5 x6 x7 x8) x9 x10 (decide (0 < x11))) ?_ ?_ ?_ ?_ ?_ ?_); (iterate 4 rfl); (exact id_sz _ _ _ _); rfl; (exact id_one _ _ _ _))
  refine bodyPost_ret (id_ret Tryz.func60 rfl _ _ w.heap.size _ rfl (st11.rb.row _) rfl) rfl ?_
  exact ⟨(pOf x1 x2 x3 x4 x5 x6 x7 x8), x9, x10, _, rfl, x9a, x10a, (st11.src.keep (setRow_other _ w.heap.size g _ (by omega)) (fun i hi => setRow_other _ w.heap.size i _ (by omega))).more (by omega), ⟨st11.only.os, st11.only.tape, st11.only.output, by rw [setRow_size]; exact st11.only.size, fun i hi hne => (setRow_other _ w.heap.size i _ (by omega)).trans (st11.only.block i hi hne)⟩⟩
end Go.Proofs.YtollifnnpihfdaaGreatDoor

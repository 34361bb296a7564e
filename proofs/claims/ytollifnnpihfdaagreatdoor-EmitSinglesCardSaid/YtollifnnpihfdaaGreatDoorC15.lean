/- Texts of one proof, laid together. -/
import Derived.Test.YtollifnnpihfdaaGreatDoorC13
import Derived.Test.YtollifnnpihfdaaGreatDoorC14
import Derived.Test.YtollifnnpihfdaaGreatDoorC08
import Derived.Test.YtollifnnpihfdaaGreatDoorC07
import Derived.Test.YtollifnnpihfdaaGreatDoorC01
import Derived.Test.YtollifnnpihfdaaGreatDoorC06
import Derived.Deep.DrawnRows
import Derived.Test.YtollifnnpihfdaaGreatDoorC09
import Derived.Test.YtollifnnpihfdaaGreatDoorC12
import Derived.Maps.AppendAt
/- Contexts and items as values; compare, number and atExit of the program; number, has, holds of the reference. -/
namespace Go.Proofs.YtollifnnpihfdaaGreatDoor
open Go.RowKit
/-- A slice's three parts. -/
structure Sl where
  A : Option Addr
  n : Nat
  c : Nat
abbrev Sl.v (s : Sl) : Value := .slice s.A s.n s.c
/-- What of a context no test reads. -/
structure CRest where
  d : Int
  i : Int
  o : Sl
  u : Bool
  n : Int
  ps : Sl
  gs : Sl
/-- What of an item no test reads. -/
structure IRest where
  gv : ByteArray
  pa : ByteArray
  dd : Int
  di : Int
  nm : ByteArray
  ro : Int
  mo : Int
  pe : Int
def ctxC (c : Ctx) (r : CRest) (it : Value) : Array Value := #[.int .i64 c.ph, .int .i64 (c.p 0), .int .i64 (c.p 1), .int .i64 (c.p 2), .int .i64 (c.p 3), .int .i64 (c.p 4), .int .i64 (c.p 5), .int .i64 (c.p 6), .int .i64 (c.p 7), .int .i64 r.d, .int .i64 r.i, .string c.comm, .string c.exe, r.o.v, .bool r.u, .int .i64 r.n, .int .i64 (c.a 0), .int .i64 (c.a 1), .int .i64 (c.a 2), .int .i64 (c.a 3), r.ps.v, r.gs.v, .int .i64 c.ex, it, .int .i64 c.ty]
def itemC (i : Itm) (r : IRest) : Array Value := #[.string r.gv, .string r.pa, .int .i64 r.dd, .int .i64 r.di, .string r.nm, .int .i64 i.dev, .int .i64 i.ino, .int .i64 r.ro, .int .i64 i.kind, .int .i64 r.mo, .int .i64 i.uid, .int .i64 i.gid, .int .i64 r.pe]
abbrev ctxV (c : Ctx) (r : CRest) (it : Value) : Value := .agg (ctxC c r it)
abbrev itemV (i : Itm) (r : IRest) : Value := .agg (itemC i r)
section
variable {w : World} {g : Nat} {c : Ctx} {r : CRest} {it : Value} {i : Itm} {ir : IRest}
/-- Block g holds a context; an item; a test. -/
abbrev CtxB (w : World) (g : Nat) (c : Ctx) (r : CRest) (it : Value) : Prop := Blk w g 54 (ctxC c r it)
abbrev ItmB (w : World) (g : Nat) (i : Itm) (r : IRest) : Prop := Blk w g 73 (itemC i r)
abbrev TestB (w : World) (g : Nat) (fd op nu : Int) (tx : ByteArray) (ot : Int) : Prop := Blk w g 85 (testC fd op nu tx ot)
theorem CtxB.ph (h : CtxB w g c r it) : w.cell? ⟨g, 0, none⟩ = some (.int .i64 c.ph) := h.cell 0
theorem CtxB.p0 (h : CtxB w g c r it) : w.cell? ⟨g, 1, none⟩ = some (.int .i64 (c.p 0)) := h.cell 1
theorem CtxB.p1 (h : CtxB w g c r it) : w.cell? ⟨g, 2, none⟩ = some (.int .i64 (c.p 1)) := h.cell 2
theorem CtxB.p2 (h : CtxB w g c r it) : w.cell? ⟨g, 3, none⟩ = some (.int .i64 (c.p 2)) := h.cell 3
theorem CtxB.p3 (h : CtxB w g c r it) : w.cell? ⟨g, 4, none⟩ = some (.int .i64 (c.p 3)) := h.cell 4
theorem CtxB.p4 (h : CtxB w g c r it) : w.cell? ⟨g, 5, none⟩ = some (.int .i64 (c.p 4)) := h.cell 5
theorem CtxB.p5 (h : CtxB w g c r it) : w.cell? ⟨g, 6, none⟩ = some (.int .i64 (c.p 5)) := h.cell 6
theorem CtxB.p6 (h : CtxB w g c r it) : w.cell? ⟨g, 7, none⟩ = some (.int .i64 (c.p 6)) := h.cell 7
theorem CtxB.p7 (h : CtxB w g c r it) : w.cell? ⟨g, 8, none⟩ = some (.int .i64 (c.p 7)) := h.cell 8
theorem CtxB.comm (h : CtxB w g c r it) : w.cell? ⟨g, 11, none⟩ = some (.string c.comm) := h.cell 11
theorem CtxB.exe (h : CtxB w g c r it) : w.cell? ⟨g, 12, none⟩ = some (.string c.exe) := h.cell 12
theorem CtxB.a0 (h : CtxB w g c r it) : w.cell? ⟨g, 16, none⟩ = some (.int .i64 (c.a 0)) := h.cell 16
theorem CtxB.a1 (h : CtxB w g c r it) : w.cell? ⟨g, 17, none⟩ = some (.int .i64 (c.a 1)) := h.cell 17
theorem CtxB.a2 (h : CtxB w g c r it) : w.cell? ⟨g, 18, none⟩ = some (.int .i64 (c.a 2)) := h.cell 18
theorem CtxB.a3 (h : CtxB w g c r it) : w.cell? ⟨g, 19, none⟩ = some (.int .i64 (c.a 3)) := h.cell 19
theorem CtxB.ex (h : CtxB w g c r it) : w.cell? ⟨g, 22, none⟩ = some (.int .i64 c.ex) := h.cell 22
theorem CtxB.ty (h : CtxB w g c r it) : w.cell? ⟨g, 24, none⟩ = some (.int .i64 c.ty) := h.cell 24
theorem CtxB.c9 (h : CtxB w g c r it) : w.cell? ⟨g, 9, none⟩ = some (.int .i64 r.d) := h.cell 9
theorem CtxB.c10 (h : CtxB w g c r it) : w.cell? ⟨g, 10, none⟩ = some (.int .i64 r.i) := h.cell 10
theorem CtxB.c13 (h : CtxB w g c r it) : w.cell? ⟨g, 13, none⟩ = some r.o.v := h.cell 13
theorem CtxB.c14 (h : CtxB w g c r it) : w.cell? ⟨g, 14, none⟩ = some (.bool r.u) := h.cell 14
theorem CtxB.items (h : CtxB w g c r it) : w.cell? ⟨g, 23, none⟩ = some it := h.cell 23
theorem ItmB.dev (h : ItmB w g i ir) : w.cell? ⟨g, 5, none⟩ = some (.int .i64 i.dev) := h.cell 5
theorem ItmB.ino (h : ItmB w g i ir) : w.cell? ⟨g, 6, none⟩ = some (.int .i64 i.ino) := h.cell 6
theorem ItmB.kind (h : ItmB w g i ir) : w.cell? ⟨g, 8, none⟩ = some (.int .i64 i.kind) := h.cell 8
theorem ItmB.uid (h : ItmB w g i ir) : w.cell? ⟨g, 10, none⟩ = some (.int .i64 i.uid) := h.cell 10
theorem ItmB.gid (h : ItmB w g i ir) : w.cell? ⟨g, 11, none⟩ = some (.int .i64 i.gid) := h.cell 11
theorem TestB.c0 {fd op nu : Int} {tx : ByteArray} {ot : Int} (h : TestB w g fd op nu tx ot) : w.cell? ⟨g, 0, none⟩ = some (.int .i64 fd) := h.cell 0
theorem TestB.c1 {fd op nu : Int} {tx : ByteArray} {ot : Int} (h : TestB w g fd op nu tx ot) : w.cell? ⟨g, 1, none⟩ = some (.int .i64 op) := h.cell 1
theorem TestB.c2 {fd op nu : Int} {tx : ByteArray} {ot : Int} (h : TestB w g fd op nu tx ot) : w.cell? ⟨g, 2, none⟩ = some (.int .i64 nu) := h.cell 2
theorem TestB.c3 {fd op nu : Int} {tx : ByteArray} {ot : Int} (h : TestB w g fd op nu tx ot) : w.cell? ⟨g, 3, none⟩ = some (.string tx) := h.cell 3
theorem TestB.c4 {fd op nu : Int} {tx : ByteArray} {ot : Int} (h : TestB w g fd op nu tx ot) : w.cell? ⟨g, 4, none⟩ = some (.int .i64 ot) := h.cell 4
theorem ctx_sz (c : Ctx) (r : CRest) (it : Value) : (Tryz.prog.info? 54).map (·.size) = some (ctxC c r it).size := by show _ = some 25; kernel_rfl
theorem item_sz (i : Itm) (r : IRest) : (Tryz.prog.info? 73).map (·.size) = some (itemC i r).size := by show _ = some 13; kernel_rfl
theorem test_sz (fd op nu : Int) (tx : ByteArray) (ot : Int) : (Tryz.prog.info? 85).map (·.size) = some (testC fd op nu tx ot).size := by show _ = some 5; kernel_rfl
theorem box2C (w : World) (c : Ctx) (r : CRest) (it : Value) (o : Obj) : CtxB ((w.alloc (.cells (ctxC c r it) 54)).alloc o) w.heap.size c r it := (Blk.new w _ _).alloc o
theorem box2I (w : World) (i : Itm) (r : IRest) (o : Obj) : ItmB ((w.alloc o).alloc (.cells (itemC i r) 73)) (w.heap.size + 1) i r := by
  have := Blk.new (w.alloc o) (itemC i r) 73
  simpa using this
end
attribute [local irreducible] ctxC itemC
def numP (c : Ctx) (i : Itm) (f : Int) : Int := if hasF c f = true then valF c i f else 0
theorem numP_yes {c : Ctx} {i : Itm} {f : Int} (h : hasF c f = true) : numP c i f = valF c i f := if_pos h
theorem numP_no {c : Ctx} {i : Itm} {f : Int} (h : hasF c f = false) : numP c i f = 0 := if_neg (by rw [h]; decide)
theorem ret_t {x y : Int} {a b : Bool} (h : x = y) (k : a = b) : Ending.returned (.tuple #[.int .i64 x, .bool a]) = Ending.returned (.tuple #[.int .i64 y, .bool b]) := by rw [h, k]
theorem vcmpF (op a b : Int) (ho : 1 ≤ op ∧ op ≤ 8) (w : World) : Calls Tryz.prog 283 #[.int .i64 op, .int .i64 a, .int .i64 b] w fun e w' => e = .returned (.bool (cmpF op a b)) ∧ w = w' := by
  have hcs : op = 1 ∨ op = 2 ∨ op = 3 ∨ op = 4 ∨ op = 5 ∨ op = 6 ∨ op = 7 ∨ op = 8 := by omega
  clear ho
  rcases hcs with rfl | rfl | rfl | rfl | rfl | rfl | rfl | rfl
  all_goals
    go_enter Tryz.func283, Tryz.ntmps283
    go_wp2_with fail
    go_ret
    exact ⟨ret_b rfl, rfl⟩
theorem rcmpF (op a b : Int) (ho : 1 ≤ op ∧ op ≤ 8) (w : World) : Calls Tryz.prog 264 #[.int .i64 op, .int .i64 a, .int .i64 b] w fun e w' => e = .returned (.bool (cmpF op a b)) ∧ w = w' := by
  have hcs : op = 1 ∨ op = 2 ∨ op = 3 ∨ op = 4 ∨ op = 5 ∨ op = 6 ∨ op = 7 ∨ op = 8 := by omega
  clear ho
  rcases hcs with rfl | rfl | rfl | rfl | rfl | rfl | rfl | rfl
  all_goals
    go_enter Tryz.func264, Tryz.ntmps264
    go_wp2_with fail
    go_ret
    exact ⟨ret_b rfl, rfl⟩
set_option maxHeartbeats 4000000 in
theorem vexitF (c : Ctx) (r : CRest) (it : Value) (i : Itm) (ir : IRest) (f : Int) (hf : 15 ≤ f ∧ f ≤ 21) (w : World) : Calls Tryz.prog 289 #[.int .i64 f, ctxV c r it, itemV i ir] w fun e w' => e = .returned (.tuple #[.int .i64 (valF c i f), .bool true]) ∧ Below w.heap.size w w' := by
  have HC := box2C w c r it (.cells (itemC i ir) 73)
  have HI := box2I w i ir (.cells (ctxC c r it) 54)
  have HB := Lib.hid (((Below.refl w.heap.size w).alloc (Nat.le_refl _) (.cells (ctxC c r it) 54)).alloc (by simp) (.cells (itemC i ir) 73))
  have q22 := HC.ex
  have q5 := HI.dev
  have q6 := HI.ino
  have q8 := HI.kind
  have q10 := HI.uid
  have q11 := HI.gid
  clear HC HI
  have hcs : f = 15 ∨ f = 16 ∨ f = 17 ∨ f = 18 ∨ f = 19 ∨ f = 20 ∨ f = 21 := by omega
  clear hf
  rcases hcs with rfl | rfl | rfl | rfl | rfl | rfl | rfl
  · have HN := Lib.hid (show valF c i 15 = c.ex by unfold valF; simp)
    go_enter Tryz.func289, Tryz.ntmps289
    go_wp2_with fail
    go_ret2
    exact ⟨ret_t HN.out.symm rfl, HB.out⟩
  · by_cases h : 0 ≤ c.ex
    · have HN := Lib.hid (show valF c i 16 = 1 by unfold valF; simp [h])
      go_enter Tryz.func289, Tryz.ntmps289
      go_wp2_with fail
      go_ret2
      exact ⟨ret_t HN.out.symm rfl, HB.out⟩
    · have HN := Lib.hid (show valF c i 16 = 0 by unfold valF; simp [h])
      go_enter Tryz.func289, Tryz.ntmps289
      go_wp2_with fail
      go_ret2
      exact ⟨ret_t HN.out.symm rfl, HB.out⟩
  · have HN := Lib.hid (show valF c i 17 = i.ino by unfold valF; simp)
    go_enter Tryz.func289, Tryz.ntmps289
    go_wp2_with fail
    go_ret2
    exact ⟨ret_t HN.out.symm rfl, HB.out⟩
  · have HN := Lib.hid (show valF c i 18 = i.dev by unfold valF; simp)
    go_enter Tryz.func289, Tryz.ntmps289
    go_wp2_with fail
    go_ret2
    exact ⟨ret_t HN.out.symm rfl, HB.out⟩
  · have HN := Lib.hid (show valF c i 19 = i.uid by unfold valF; simp)
    go_enter Tryz.func289, Tryz.ntmps289
    go_wp2_with fail
    go_ret2
    exact ⟨ret_t HN.out.symm rfl, HB.out⟩
  · have HN := Lib.hid (show valF c i 20 = i.gid by unfold valF; simp)
    go_enter Tryz.func289, Tryz.ntmps289
    go_wp2_with fail
    go_ret2
    exact ⟨ret_t HN.out.symm rfl, HB.out⟩
  · have HN := Lib.hid (show valF c i 21 = i.kind by unfold valF; simp)
    go_enter Tryz.func289, Tryz.ntmps289
    go_wp2_with fail
    go_ret2
    exact ⟨ret_t HN.out.symm rfl, HB.out⟩
theorem hasF_low {c : Ctx} {f : Int} (h : f ≤ 14) : hasF c f = true := by unfold hasF; rw [if_neg (by omega)]; simp; omega
theorem hasF_exit {c : Ctx} {f : Int} (h : 15 ≤ f ∧ f ≤ 21) : hasF c f = decide (c.ph = 2) := if_pos h
theorem hasF_type (c : Ctx) : hasF c 22 = decide (c.ty ≠ 0) := by unfold hasF; rw [if_neg (by omega)]; simp
theorem vnumF1 (c : Ctx) (r : CRest) (it : Value) (i : Itm) (ir : IRest) (w : World) : Calls Tryz.prog 282 #[.int .i64 1, ctxV c r it, itemV i ir] w fun e w' => e = .returned (.tuple #[.int .i64 (numP c i 1), .bool (hasF c 1)]) ∧ Below w.heap.size w w' := by
  have HC := box2C w c r it (.cells (itemC i ir) 73)
  have HI := box2I w i ir (.cells (ctxC c r it) 54)
  have HB := Lib.hid (((Below.refl w.heap.size w).alloc (Nat.le_refl _) (.cells (ctxC c r it) 54)).alloc (by simp) (.cells (itemC i ir) 73))
  have q := HC.p0
  clear HC HI
  have HN := Lib.hid (show numP c i 1 = c.p 0 from (numP_yes (hasF_low (by omega))).trans (by unfold valF; simp))
  have HH := Lib.hid (hasF_low (c := c) (f := 1) (by omega))
  go_enter Tryz.func282, Tryz.ntmps282
  go_wp2_with fail
  go_ret2
  exact ⟨ret_t HN.out.symm HH.out.symm, HB.out⟩
theorem vnumF2 (c : Ctx) (r : CRest) (it : Value) (i : Itm) (ir : IRest) (w : World) : Calls Tryz.prog 282 #[.int .i64 2, ctxV c r it, itemV i ir] w fun e w' => e = .returned (.tuple #[.int .i64 (numP c i 2), .bool (hasF c 2)]) ∧ Below w.heap.size w w' := by
  have HC := box2C w c r it (.cells (itemC i ir) 73)
  have HI := box2I w i ir (.cells (ctxC c r it) 54)
  have HB := Lib.hid (((Below.refl w.heap.size w).alloc (Nat.le_refl _) (.cells (ctxC c r it) 54)).alloc (by simp) (.cells (itemC i ir) 73))
  have q := HC.p1
  clear HC HI
  have HN := Lib.hid (show numP c i 2 = c.p 1 from (numP_yes (hasF_low (by omega))).trans (by unfold valF; simp))
  have HH := Lib.hid (hasF_low (c := c) (f := 2) (by omega))
  go_enter Tryz.func282, Tryz.ntmps282
  go_wp2_with fail
  go_ret2
  exact ⟨ret_t HN.out.symm HH.out.symm, HB.out⟩
theorem vnumF3 (c : Ctx) (r : CRest) (it : Value) (i : Itm) (ir : IRest) (w : World) : Calls Tryz.prog 282 #[.int .i64 3, ctxV c r it, itemV i ir] w fun e w' => e = .returned (.tuple #[.int .i64 (numP c i 3), .bool (hasF c 3)]) ∧ Below w.heap.size w w' := by
  have HC := box2C w c r it (.cells (itemC i ir) 73)
  have HI := box2I w i ir (.cells (ctxC c r it) 54)
  have HB := Lib.hid (((Below.refl w.heap.size w).alloc (Nat.le_refl _) (.cells (ctxC c r it) 54)).alloc (by simp) (.cells (itemC i ir) 73))
  have q := HC.p2
  clear HC HI
  have HN := Lib.hid (show numP c i 3 = c.p 2 from (numP_yes (hasF_low (by omega))).trans (by unfold valF; simp))
  have HH := Lib.hid (hasF_low (c := c) (f := 3) (by omega))
  go_enter Tryz.func282, Tryz.ntmps282
  go_wp2_with fail
  go_ret2
  exact ⟨ret_t HN.out.symm HH.out.symm, HB.out⟩
theorem vnumF4 (c : Ctx) (r : CRest) (it : Value) (i : Itm) (ir : IRest) (w : World) : Calls Tryz.prog 282 #[.int .i64 4, ctxV c r it, itemV i ir] w fun e w' => e = .returned (.tuple #[.int .i64 (numP c i 4), .bool (hasF c 4)]) ∧ Below w.heap.size w w' := by
  have HC := box2C w c r it (.cells (itemC i ir) 73)
  have HI := box2I w i ir (.cells (ctxC c r it) 54)
  have HB := Lib.hid (((Below.refl w.heap.size w).alloc (Nat.le_refl _) (.cells (ctxC c r it) 54)).alloc (by simp) (.cells (itemC i ir) 73))
  have q := HC.p3
  clear HC HI
  have HN := Lib.hid (show numP c i 4 = c.p 3 from (numP_yes (hasF_low (by omega))).trans (by unfold valF; simp))
  have HH := Lib.hid (hasF_low (c := c) (f := 4) (by omega))
  go_enter Tryz.func282, Tryz.ntmps282
  go_wp2_with fail
  go_ret2
  exact ⟨ret_t HN.out.symm HH.out.symm, HB.out⟩
theorem vnumF5 (c : Ctx) (r : CRest) (it : Value) (i : Itm) (ir : IRest) (w : World) : Calls Tryz.prog 282 #[.int .i64 5, ctxV c r it, itemV i ir] w fun e w' => e = .returned (.tuple #[.int .i64 (numP c i 5), .bool (hasF c 5)]) ∧ Below w.heap.size w w' := by
  have HC := box2C w c r it (.cells (itemC i ir) 73)
  have HI := box2I w i ir (.cells (ctxC c r it) 54)
  have HB := Lib.hid (((Below.refl w.heap.size w).alloc (Nat.le_refl _) (.cells (ctxC c r it) 54)).alloc (by simp) (.cells (itemC i ir) 73))
  have q := HC.p4
  clear HC HI
  have HN := Lib.hid (show numP c i 5 = c.p 4 from (numP_yes (hasF_low (by omega))).trans (by unfold valF; simp))
  have HH := Lib.hid (hasF_low (c := c) (f := 5) (by omega))
  go_enter Tryz.func282, Tryz.ntmps282
  go_wp2_with fail
  go_ret2
  exact ⟨ret_t HN.out.symm HH.out.symm, HB.out⟩
theorem vnumF6 (c : Ctx) (r : CRest) (it : Value) (i : Itm) (ir : IRest) (w : World) : Calls Tryz.prog 282 #[.int .i64 6, ctxV c r it, itemV i ir] w fun e w' => e = .returned (.tuple #[.int .i64 (numP c i 6), .bool (hasF c 6)]) ∧ Below w.heap.size w w' := by
  have HC := box2C w c r it (.cells (itemC i ir) 73)
  have HI := box2I w i ir (.cells (ctxC c r it) 54)
  have HB := Lib.hid (((Below.refl w.heap.size w).alloc (Nat.le_refl _) (.cells (ctxC c r it) 54)).alloc (by simp) (.cells (itemC i ir) 73))
  have q := HC.p5
  clear HC HI
  have HN := Lib.hid (show numP c i 6 = c.p 5 from (numP_yes (hasF_low (by omega))).trans (by unfold valF; simp))
  have HH := Lib.hid (hasF_low (c := c) (f := 6) (by omega))
  go_enter Tryz.func282, Tryz.ntmps282
  go_wp2_with fail
  go_ret2
  exact ⟨ret_t HN.out.symm HH.out.symm, HB.out⟩
theorem vnumF7 (c : Ctx) (r : CRest) (it : Value) (i : Itm) (ir : IRest) (w : World) : Calls Tryz.prog 282 #[.int .i64 7, ctxV c r it, itemV i ir] w fun e w' => e = .returned (.tuple #[.int .i64 (numP c i 7), .bool (hasF c 7)]) ∧ Below w.heap.size w w' := by
  have HC := box2C w c r it (.cells (itemC i ir) 73)
  have HI := box2I w i ir (.cells (ctxC c r it) 54)
  have HB := Lib.hid (((Below.refl w.heap.size w).alloc (Nat.le_refl _) (.cells (ctxC c r it) 54)).alloc (by simp) (.cells (itemC i ir) 73))
  have q := HC.p6
  clear HC HI
  have HN := Lib.hid (show numP c i 7 = c.p 6 from (numP_yes (hasF_low (by omega))).trans (by unfold valF; simp))
  have HH := Lib.hid (hasF_low (c := c) (f := 7) (by omega))
  go_enter Tryz.func282, Tryz.ntmps282
  go_wp2_with fail
  go_ret2
  exact ⟨ret_t HN.out.symm HH.out.symm, HB.out⟩
theorem vnumF8 (c : Ctx) (r : CRest) (it : Value) (i : Itm) (ir : IRest) (w : World) : Calls Tryz.prog 282 #[.int .i64 8, ctxV c r it, itemV i ir] w fun e w' => e = .returned (.tuple #[.int .i64 (numP c i 8), .bool (hasF c 8)]) ∧ Below w.heap.size w w' := by
  have HC := box2C w c r it (.cells (itemC i ir) 73)
  have HI := box2I w i ir (.cells (ctxC c r it) 54)
  have HB := Lib.hid (((Below.refl w.heap.size w).alloc (Nat.le_refl _) (.cells (ctxC c r it) 54)).alloc (by simp) (.cells (itemC i ir) 73))
  have q := HC.p7
  clear HC HI
  have HN := Lib.hid (show numP c i 8 = c.p 7 from (numP_yes (hasF_low (by omega))).trans (by unfold valF; simp))
  have HH := Lib.hid (hasF_low (c := c) (f := 8) (by omega))
  go_enter Tryz.func282, Tryz.ntmps282
  go_wp2_with fail
  go_ret2
  exact ⟨ret_t HN.out.symm HH.out.symm, HB.out⟩
theorem vnumF9 (c : Ctx) (r : CRest) (it : Value) (i : Itm) (ir : IRest) (w : World) : Calls Tryz.prog 282 #[.int .i64 9, ctxV c r it, itemV i ir] w fun e w' => e = .returned (.tuple #[.int .i64 (numP c i 9), .bool (hasF c 9)]) ∧ Below w.heap.size w w' := by
  have HC := box2C w c r it (.cells (itemC i ir) 73)
  have HI := box2I w i ir (.cells (ctxC c r it) 54)
  have HB := Lib.hid (((Below.refl w.heap.size w).alloc (Nat.le_refl _) (.cells (ctxC c r it) 54)).alloc (by simp) (.cells (itemC i ir) 73))
  have q := HC.a0
  clear HC HI
  have HN := Lib.hid (show numP c i 9 = c.a 0 from (numP_yes (hasF_low (by omega))).trans (by unfold valF; simp))
  have HH := Lib.hid (hasF_low (c := c) (f := 9) (by omega))
  go_enter Tryz.func282, Tryz.ntmps282
  go_wp2_with fail
  go_ret2
  exact ⟨ret_t HN.out.symm HH.out.symm, HB.out⟩
theorem vnumF10 (c : Ctx) (r : CRest) (it : Value) (i : Itm) (ir : IRest) (w : World) : Calls Tryz.prog 282 #[.int .i64 10, ctxV c r it, itemV i ir] w fun e w' => e = .returned (.tuple #[.int .i64 (numP c i 10), .bool (hasF c 10)]) ∧ Below w.heap.size w w' := by
  have HC := box2C w c r it (.cells (itemC i ir) 73)
  have HI := box2I w i ir (.cells (ctxC c r it) 54)
  have HB := Lib.hid (((Below.refl w.heap.size w).alloc (Nat.le_refl _) (.cells (ctxC c r it) 54)).alloc (by simp) (.cells (itemC i ir) 73))
  have q := HC.a1
  clear HC HI
  have HN := Lib.hid (show numP c i 10 = c.a 1 from (numP_yes (hasF_low (by omega))).trans (by unfold valF; simp))
  have HH := Lib.hid (hasF_low (c := c) (f := 10) (by omega))
  go_enter Tryz.func282, Tryz.ntmps282
  go_wp2_with fail
  go_ret2
  exact ⟨ret_t HN.out.symm HH.out.symm, HB.out⟩
theorem vnumF11 (c : Ctx) (r : CRest) (it : Value) (i : Itm) (ir : IRest) (w : World) : Calls Tryz.prog 282 #[.int .i64 11, ctxV c r it, itemV i ir] w fun e w' => e = .returned (.tuple #[.int .i64 (numP c i 11), .bool (hasF c 11)]) ∧ Below w.heap.size w w' := by
  have HC := box2C w c r it (.cells (itemC i ir) 73)
  have HI := box2I w i ir (.cells (ctxC c r it) 54)
  have HB := Lib.hid (((Below.refl w.heap.size w).alloc (Nat.le_refl _) (.cells (ctxC c r it) 54)).alloc (by simp) (.cells (itemC i ir) 73))
  have q := HC.a2
  clear HC HI
  have HN := Lib.hid (show numP c i 11 = c.a 2 from (numP_yes (hasF_low (by omega))).trans (by unfold valF; simp))
  have HH := Lib.hid (hasF_low (c := c) (f := 11) (by omega))
  go_enter Tryz.func282, Tryz.ntmps282
  go_wp2_with fail
  go_ret2
  exact ⟨ret_t HN.out.symm HH.out.symm, HB.out⟩
theorem vnumF12 (c : Ctx) (r : CRest) (it : Value) (i : Itm) (ir : IRest) (w : World) : Calls Tryz.prog 282 #[.int .i64 12, ctxV c r it, itemV i ir] w fun e w' => e = .returned (.tuple #[.int .i64 (numP c i 12), .bool (hasF c 12)]) ∧ Below w.heap.size w w' := by
  have HC := box2C w c r it (.cells (itemC i ir) 73)
  have HI := box2I w i ir (.cells (ctxC c r it) 54)
  have HB := Lib.hid (((Below.refl w.heap.size w).alloc (Nat.le_refl _) (.cells (ctxC c r it) 54)).alloc (by simp) (.cells (itemC i ir) 73))
  have q := HC.a3
  clear HC HI
  have HN := Lib.hid (show numP c i 12 = c.a 3 from (numP_yes (hasF_low (by omega))).trans (by unfold valF; simp))
  have HH := Lib.hid (hasF_low (c := c) (f := 12) (by omega))
  go_enter Tryz.func282, Tryz.ntmps282
  go_wp2_with fail
  go_ret2
  exact ⟨ret_t HN.out.symm HH.out.symm, HB.out⟩
theorem vnumF22 (c : Ctx) (r : CRest) (it : Value) (i : Itm) (ir : IRest) (w : World) : Calls Tryz.prog 282 #[.int .i64 22, ctxV c r it, itemV i ir] w fun e w' => e = .returned (.tuple #[.int .i64 (numP c i 22), .bool (hasF c 22)]) ∧ Below w.heap.size w w' := by
  have HC := box2C w c r it (.cells (itemC i ir) 73)
  have HI := box2I w i ir (.cells (ctxC c r it) 54)
  have HB := Lib.hid (((Below.refl w.heap.size w).alloc (Nat.le_refl _) (.cells (ctxC c r it) 54)).alloc (by simp) (.cells (itemC i ir) 73))
  have q := HC.ty
  clear HC HI
  have HH := Lib.hid (hasF_type c)
  go_enter Tryz.func282, Tryz.ntmps282
  go_wp2_with fail
  go_quiet (fail)
  go_wp2_with fail
  go_ret2
  refine ⟨ret_t ?_ ?_, below_drewN HB.out _⟩
  · unfold numP
    by_cases h : c.ty = 0
    · rw [HH.out, if_neg (by simpa using h)]; exact h
    · rw [HH.out, if_pos (by simpa using h)]; rfl
  · rw [HH.out]; by_cases h : c.ty = 0 <;> simp [h]
theorem vnumFno (c : Ctx) (r : CRest) (it : Value) (i : Itm) (ir : IRest) (f : Int) (hr : 15 ≤ f ∧ f ≤ 21) (hp : c.ph ≠ 2) (w : World) : Calls Tryz.prog 282 #[.int .i64 f, ctxV c r it, itemV i ir] w fun e w' => e = .returned (.tuple #[.int .i64 (numP c i f), .bool (hasF c f)]) ∧ Below w.heap.size w w' := by
  have HC := box2C w c r it (.cells (itemC i ir) 73)
  have HI := box2I w i ir (.cells (ctxC c r it) 54)
  have HB := Lib.hid (((Below.refl w.heap.size w).alloc (Nat.le_refl _) (.cells (ctxC c r it) 54)).alloc (by simp) (.cells (itemC i ir) 73))
  have q := HC.ph
  clear HC HI
  have HH := Lib.hid (show hasF c f = false by rw [hasF_exit hr]; simpa using hp)
  have HN := Lib.hid (numP_no (i := i) HH.out)
  have hpb : (c.ph != 2) = true := by simpa using hp
  have n1 : (f == 1) = false := by simp; omega
  have n2 : (f == 2) = false := by simp; omega
  have n3 : (f == 3) = false := by simp; omega
  have n4 : (f == 4) = false := by simp; omega
  have n5 : (f == 5) = false := by simp; omega
  have n6 : (f == 6) = false := by simp; omega
  have n7 : (f == 7) = false := by simp; omega
  have n8 : (f == 8) = false := by simp; omega
  have n9 : (f == 9) = false := by simp; omega
  have n10 : (f == 10) = false := by simp; omega
  have n11 : (f == 11) = false := by simp; omega
  have n12 : (f == 12) = false := by simp; omega
  have n22 : (f == 22) = false := by simp; omega
  clear hr hp
  go_enter Tryz.func282, Tryz.ntmps282
  go_wp2_with fail
  go_ret2
  exact ⟨ret_t HN.out.symm HH.out.symm, HB.out⟩
set_option maxHeartbeats 2000000 in
theorem vnumFyes (c : Ctx) (r : CRest) (it : Value) (i : Itm) (ir : IRest) (f : Int) (hr : 15 ≤ f ∧ f ≤ 21) (hp : c.ph = 2) (w : World) : Calls Tryz.prog 282 #[.int .i64 f, ctxV c r it, itemV i ir] w fun e w' => e = .returned (.tuple #[.int .i64 (numP c i f), .bool (hasF c f)]) ∧ Below w.heap.size w w' := by
  have HC := box2C w c r it (.cells (itemC i ir) 73)
  have HI := box2I w i ir (.cells (ctxC c r it) 54)
  have HB := Lib.hid (((Below.refl w.heap.size w).alloc (Nat.le_refl _) (.cells (ctxC c r it) 54)).alloc (by simp) (.cells (itemC i ir) 73))
  have q := HC.ph
  have HH := Lib.hid (show hasF c f = true by rw [hasF_exit hr]; simpa using hp)
  have HN := Lib.hid (numP_yes (i := i) HH.out)
  have HX := Lib.hid (vexitF c r it i ir f hr)
  have hpb : (c.ph != 2) = false := by simpa using hp
  have HCH := Lib.hid HC
  have HIH := Lib.hid HI
  have n1 : (f == 1) = false := by simp; omega
  have n2 : (f == 2) = false := by simp; omega
  have n3 : (f == 3) = false := by simp; omega
  have n4 : (f == 4) = false := by simp; omega
  have n5 : (f == 5) = false := by simp; omega
  have n6 : (f == 6) = false := by simp; omega
  have n7 : (f == 7) = false := by simp; omega
  have n8 : (f == 8) = false := by simp; omega
  have n9 : (f == 9) = false := by simp; omega
  have n10 : (f == 10) = false := by simp; omega
  have n11 : (f == 11) = false := by simp; omega
  have n12 : (f == 12) = false := by simp; omega
  have n22 : (f == 22) = false := by simp; omega
  clear hr hp HC HI
  go_enter Tryz.func282, Tryz.ntmps282
  go_wp2_with (first | ((with_reducible refine load_blk ?_ 54 (.tmp 4) ?_ HCH.out ?_ _ Tryz.underlying54 ?_ ?_ ?_); (iterate 4 rfl); exact ctx_sz _ _ _) | ((with_reducible refine load_blk ?_ 73 (.tmp 5) ?_ HIH.out ?_ _ Tryz.underlying73 ?_ ?_ ?_); (iterate 4 rfl); exact item_sz _ _))
  refine (HX.out _).mono ?_
  rintro e w1 ⟨rfl, hb⟩
  have HB1 := Lib.hid (HB.out.trans (hb.mono HB.out.size))
  go_wp2_with fail
  go_ret2
  exact ⟨ret_t HN.out.symm HH.out.symm, HB1.out⟩
theorem vnumberF (c : Ctx) (r : CRest) (it : Value) (i : Itm) (ir : IRest) (f : Int) (hf : 1 ≤ f ∧ f ≤ 22) (h13 : f ≠ 13) (h14 : f ≠ 14) (w : World) : Calls Tryz.prog 282 #[.int .i64 f, ctxV c r it, itemV i ir] w fun e w' => e = .returned (.tuple #[.int .i64 (numP c i f), .bool (hasF c f)]) ∧ Below w.heap.size w w' := by
  by_cases hlow : f ≤ 14
  · have hcs : f = 1 ∨ f = 2 ∨ f = 3 ∨ f = 4 ∨ f = 5 ∨ f = 6 ∨ f = 7 ∨ f = 8 ∨ f = 9 ∨ f = 10 ∨ f = 11 ∨ f = 12 := by omega
    rcases hcs with rfl | rfl | rfl | rfl | rfl | rfl | rfl | rfl | rfl | rfl | rfl | rfl
    · exact vnumF1 c r it i ir w
    · exact vnumF2 c r it i ir w
    · exact vnumF3 c r it i ir w
    · exact vnumF4 c r it i ir w
    · exact vnumF5 c r it i ir w
    · exact vnumF6 c r it i ir w
    · exact vnumF7 c r it i ir w
    · exact vnumF8 c r it i ir w
    · exact vnumF9 c r it i ir w
    · exact vnumF10 c r it i ir w
    · exact vnumF11 c r it i ir w
    · exact vnumF12 c r it i ir w
  · by_cases h22 : f = 22
    · subst h22; exact vnumF22 c r it i ir w
    · by_cases hp : c.ph = 2
      · exact vnumFyes c r it i ir f (by omega) hp w
      · exact vnumFno c r it i ir f (by omega) hp w
end Go.Proofs.YtollifnnpihfdaaGreatDoor
/- What the walks read of the variables; Atoi. -/
namespace Go.Proofs.YtollifnnpihfdaaGreatDoor
open Go.RowKit
def Mx (w : World) : Prop := ∃ m, w.cell? ⟨8, 0, none⟩ = some (.int .i64 m)
def ErrV (w : World) (g : Nat) : Prop := ∃ ev, w.cell? ⟨g, 0, none⟩ = some ev ∧ (ev = .nilIface ∨ ∃ te pe, ev = .iface te pe)
theorem Mx.below {w w' : World} (h : Mx w) (hb : Below w.heap.size w w') : Mx w' := by
  obtain ⟨m, hm⟩ := h
  exact ⟨m, (hb.cell (block_lt_of_cell hm)).trans hm⟩
theorem ErrV.below {w w' : World} {g : Nat} (h : ErrV w g) (hb : Below w.heap.size w w') : ErrV w' g := by
  obtain ⟨ev, hm, h⟩ := h
  exact ⟨ev, (hb.cell (block_lt_of_cell hm)).trans hm, h⟩
end Go.Proofs.YtollifnnpihfdaaGreatDoor
/- readValue of the program. -/
namespace Go.Proofs.YtollifnnpihfdaaGreatDoor
open Go.RowKit
theorem atoi_boundsF {l : List UInt8} {v : Int} (h : Lib.atoiAll l = .ok v) : I64 v := by
  cases l with
  | nil => cases h
  | cons c r =>
    unfold I64
    by_cases h43 : c.toNat = 43
    · have : c = 43 := UInt8.toNat_inj.1 h43
      subst this
      rw [Lib.atoiAll_plus] at h
      exact Lib.signless_bounds h
    · by_cases h45 : c.toNat = 45
      · have : c = 45 := UInt8.toNat_inj.1 h45
        subst this
        rw [Lib.atoiAll_minus] at h
        exact Lib.signed_bounds h
      · rw [Lib.atoiAll_plain c r h43 h45] at h
        exact Lib.signless_bounds h
/-- What readValue leaves: the test with its value, and whether it was one. -/
def RdV (w0 w : World) (g : Nat) (fd op : Int) (V : ByteArray) (e : Ending) (w' : World) : Prop := ∃ (ok : Bool) (nu : Int) (tx : ByteArray) (ot : Int), e = .returned (.bool ok) ∧ Blk w' g 85 (testC fd op nu tx ot) ∧ (ok = true → ReadV fd V nu tx ot) ∧ (ok = false → ∀ nu tx ot, ¬ ReadV fd V nu tx ot) ∧ (ok = true → I64 nu) ∧ tx.size ≤ 640 ∧ w.grownBy w' (some g) ∧ Below w0.heap.size w0 w'
theorem readV_text {fd : Int} {V : ByteArray} (ht : textB fd = true) (h : unqE V = 0) : ReadV fd V 0 (unqS V) 0 := .inl ⟨ht, h, rfl, rfl, rfl⟩
theorem readV_text_no {fd : Int} {V : ByteArray} (ht : textB fd = true) (h : unqE V ≠ 0) : ∀ nu tx ot, ¬ ReadV fd V nu tx ot := by
  rintro nu tx ot (k | k | k)
  · exact h k.2.1
  · rw [ht] at k; cases k.1
  · rw [ht] at k; cases k.1
theorem readV_name {fd : Int} {V : ByteArray} (ht : textB fd = false) (h : numF V ≠ 0) : ReadV fd V 0 ⟨#[]⟩ (numF V) := .inr (.inl ⟨ht, h, rfl, rfl, rfl⟩)
theorem readV_num {fd : Int} {V : ByteArray} {v : Int} (ht : textB fd = false) (h : numF V = 0) (hi : I64 v) (e : numS v = V) : ReadV fd V v ⟨#[]⟩ 0 := .inr (.inr ⟨ht, h, rfl, rfl, hi, e⟩)
theorem readV_num_no {fd : Int} {V : ByteArray} (ht : textB fd = false) (h : numF V = 0) (hn : ∀ v, I64 v → numS v ≠ V) : ∀ nu tx ot, ¬ ReadV fd V nu tx ot := by
  rintro nu tx ot (k | k | k)
  · rw [ht] at k; cases k.1
  · exact k.2.1 h
  · exact hn nu k.2.2.2.2.1 k.2.2.2.2.2
theorem unqS_640 (V : ByteArray) : (unqS V).size ≤ 640 := by
  cases hu : unqO V.data.toList with
  | none => rw [unqS_none hu]; decide
  | some t =>
    rw [unqS_some hu]
    show t.toArray.size ≤ 640
    simpa using (of_unqO hu).2
theorem i64_zero : I64 0 := ⟨by decide, by decide⟩
attribute [local irreducible] textB numF numS unqS unqE
end Go.Proofs.YtollifnnpihfdaaGreatDoor
/- Rules as values, and slices of tests in memory. -/
namespace Go.Proofs.YtollifnnpihfdaaGreatDoor
open Go.ChangeShapes Go.WideShapes Go.RowKit
theorem addT_block (a : Addr) (n : Nat) : (a.add n).block = a.block := by unfold Addr.add; split <;> rfl
abbrev tstC (t : Tst) : Array Value := testC t.fd t.op t.nu t.tx t.ot
abbrev tstV (t : Tst) : Value := testV t.fd t.op t.nu t.tx t.ot
theorem tst_one (t : Tst) : (tstC t).all (·.oneCell') = true := by simp [tstC, Value.oneCell']
/-- The slice at A reads as the tests ts; it lies below block B. -/
def TestsAt (w : World) (B : Nat) (A : Option Addr) (ts : List Tst) : Prop := ∀ k (hk : k < ts.length), ∃ ad : Addr, A = some ad ∧ ad.block < B ∧ ∀ j, j < 5 → w.cell? ((ad.add (k * 5)).add j) = (tstC (ts[k]'hk))[j]?
theorem TestsAt.keep {w w' : World} {B B' : Nat} {A : Option Addr} {ts : List Tst} (h : TestsAt w B A ts) (hb : Below B' w w') (hB : B ≤ B') : TestsAt w' B A ts := fun k hk => by
  obtain ⟨ad, e, hl, hc⟩ := h k hk
  exact ⟨ad, e, hl, fun j hj => (hb.cell (by rw [addT_block, addT_block]; omega)).trans (hc j hj)⟩
theorem TestsAt.more {w : World} {B B' : Nat} {A : Option Addr} {ts : List Tst} (h : TestsAt w B A ts) (hB : B ≤ B') : TestsAt w B' A ts := fun k hk => by
  obtain ⟨ad, e, hl, hc⟩ := h k hk
  exact ⟨ad, e, by omega, hc⟩
theorem TestsAt.nil {w : World} {B : Nat} {A : Option Addr} : TestsAt w B A [] := fun k hk => by simp at hk
theorem TestsAt.grown {w w' : World} {B g : Nat} {A : Option Addr} {ts : List Tst} (h : TestsAt w B A ts) (hg : w.grownBy w' (some g)) (hB : B ≤ w.heap.size) (hne : ∀ ad, A = some ad → ad.block ≠ g) : TestsAt w' B A ts := fun k hk => by
  obtain ⟨ad, e, hl, hc⟩ := h k hk
  refine ⟨ad, e, hl, fun j hj => ?_⟩
  have : w'.cell? ((ad.add (k * 5)).add j) = w.cell? ((ad.add (k * 5)).add j) := World.cell?_of_block (hg.block _ (by rw [addT_block, addT_block]; omega) (fun e' => by injection e' with e'; rw [addT_block, addT_block] at e'; exact hne ad e e'))
  exact this.trans (hc j hj)
theorem tst_cells {w : World} {a : Addr} {t : Tst} (h : ∀ j, j < 5 → w.cell? (a.add j) = (tstC t)[j]?) :
    w.cell? a = some (.int .i64 t.fd) ∧ w.cell? ⟨a.block, a.off + 1, none⟩ = some (.int .i64 t.op) ∧ w.cell? ⟨a.block, a.off + 2, none⟩ = some (.int .i64 t.nu) ∧ w.cell? ⟨a.block, a.off + 3, none⟩ = some (.string t.tx) ∧ w.cell? ⟨a.block, a.off + 4, none⟩ = some (.int .i64 t.ot) :=
  ⟨h 0 (by omega), h 1 (by omega), h 2 (by omega), h 3 (by omega), h 4 (by omega)⟩
/-- A slice of the call's own that reads as tests. -/
def OwnT (w : World) (base : Nat) (v : Value) (ts : List Tst) : Prop := w.ownsRow base 85 5 v ts.length (ts.flatMap fun t => (tstC t).toList)
theorem OwnT.nil (w : World) (base : Nat) : OwnT w base (.slice none 0 0) [] := World.ownsRow_nil _ _ _ _
theorem OwnT.alloc {w : World} {base : Nat} {v : Value} {ts : List Tst} (h : OwnT w base v ts) (o : Obj) : OwnT (w.alloc o) base v ts := World.ownsRow.alloc h o
theorem OwnT.ge {w : World} {base : Nat} {v : Value} {ts : List Tst} (h : OwnT w base v ts) : ∀ r, v.ownBlock = some r → base ≤ r := fun r hr => (World.ownsRow.lt h r hr).1
theorem OwnT.below {w w' : World} {base : Nat} {v : Value} {ts : List Tst} (h : OwnT w base v ts) (hb : Below w.heap.size w w') : OwnT w' base v ts :=
  World.ownsRow.kept (row := none) h ⟨hb.os, hb.tape, hb.output, hb.size, fun i hi _ => hb.block i hi⟩ (by
    cases hv : v.ownBlock with
    | none => exact .inl rfl
    | some k => exact .inr (by simp))
theorem OwnT.only {w w' : World} {lo : Nat} {v : Value} {ts : List Tst} (h : OwnT w lo v ts) {g : Nat} (hg : w.grownBy w' (some g)) (hlt : g < lo) : OwnT w' lo v ts :=
  World.ownsRow.kept h hg (by
    cases hv : v.ownBlock with
    | none => exact .inl rfl
    | some k => right; intro e; injection e with e; have := h.ge k hv; omega)
theorem OwnT.setCell {w : World} {lo : Nat} {v : Value} {ts : List Tst} (h : OwnT w lo v ts) {p : Addr} (hp : p.block < lo) (u : Value) : OwnT (w.setCell p u) lo v ts := ownsRow_setCell_below h hp u
theorem OwnT.row {w : World} {lo g : Nat} {v : Value} {ts : List Tst} (h : OwnT w lo v ts) (hg : g < lo) (cs : Array Value) : OwnT (w.setRow g cs) lo v ts :=
  World.ownsRow.kept h (row := some g) ⟨rfl, rfl, rfl, by rw [setRow_size]; exact Nat.le_refl _, fun i _ hne => setRow_other _ g i cs (fun e => hne (by rw [e]))⟩ (by
    cases hv : v.ownBlock with
    | none => exact .inl rfl
    | some k => right; intro e; injection e with e; have := h.ge k hv; omega)
theorem OwnT.low {w : World} {lo lo' : Nat} {v : Value} {ts : List Tst} (h : OwnT w lo v ts) (hb : lo' ≤ lo) : OwnT w lo' v ts := Joins.ownsRow_le h hb
theorem tst_len (t : Tst) : (tstC t).toList.length = 5 := rfl
theorem flatT_at : ∀ (ts : List Tst) (k : Nat) (hk : k < ts.length) (j : Nat), j < 5 → (ts.flatMap fun t => (tstC t).toList)[k * 5 + j]? = (tstC (ts[k]'hk))[j]?
  | [], k, hk, _, _ => by simp at hk
  | p :: ts, 0, _, j, hj => by
    rw [List.flatMap_cons, List.getElem?_append_left (by rw [tst_len]; omega)]
    simp
  | p :: ts, k + 1, hk, j, hj => by
    have ih := flatT_at ts k (by simp at hk; omega) j hj
    rw [List.flatMap_cons, List.getElem?_append_right (by rw [tst_len]; omega), tst_len, show (k + 1) * 5 + j - 5 = k * 5 + j by omega, ih]
    simp
theorem addT_at (g a b : Nat) : ((⟨g, 0, none⟩ : Addr).add a).add b = ⟨g, a + b, none⟩ := by
  unfold Addr.add
  split
  · split
    · subst_vars; rfl
    · subst_vars; simp
  · split
    · subst_vars; simp
    · simp
theorem addT_zero (g n : Nat) : (⟨g, 0, none⟩ : Addr).add n = ⟨g, n, none⟩ := by
  unfold Addr.add
  split
  · subst_vars; rfl
  · simp
theorem OwnT.tests {w : World} {base : Nat} {v : Value} {ts : List Tst} (h : OwnT w base v ts) : ∃ A c, v = .slice A ts.length c ∧ TestsAt w w.heap.size A ts := by
  rcases Joins.ownsRow_forms h with ⟨rfl, h0⟩ | ⟨g, cap, rfl⟩
  · have : ts = [] := List.eq_nil_of_length_eq_zero h0
    subst this
    exact ⟨none, 0, rfl, TestsAt.nil⟩
  · refine ⟨_, cap, rfl, fun k hk => ⟨_, rfl, (World.ownsRow.lt h g rfl).2, fun j hj => ?_⟩⟩
    have hf := flatT_at ts k hk j hj
    have hs : j < (tstC (ts[k]'hk)).size := hj
    rw [Array.getElem?_eq_getElem hs] at hf ⊢
    have hc := World.ownsRow.cells h (g := g) rfl (k * 5 + j) _ hf
    rw [addT_zero] at hc
    rw [addT_at]
    exact hc
theorem Tryz.infoT : (Tryz.prog.info? 85).map (fun i => (i.zero, i.size, i.bytes)) = some (some (.agg (testC 0 0 0 ⟨#[]⟩ 0)), 5, 48) := by kernel_rfl
/-- A rule's cells. -/
abbrev rulC (r : Rul) (v : Value) : Array Value := #[.int .i64 r.li, .int .i64 r.ac, .int .u64 (r.ca : Int), v, .int .i64 r.wa, .string r.pa, .int .i64 r.pe, .string r.ke]
abbrev rulV (r : Rul) (v : Value) : Value := .agg (rulC r v)
abbrev RulB (w : World) (g : Nat) (r : Rul) (v : Value) : Prop := Blk w g 90 (rulC r v)
theorem rul_sz (r : Rul) (v : Value) : (Tryz.prog.info? 90).map (·.size) = some (rulC r v).size := by show _ = some 8; kernel_rfl
theorem rul_one (r : Rul) (A : Option Addr) (n c : Nat) : (rulC r (.slice A n c)).all (·.oneCell') = true := by simp [rulC, Value.oneCell']
section
variable {w : World} {g : Nat} {r : Rul} {v : Value}
theorem RulB.c0 (h : RulB w g r v) : w.cell? ⟨g, 0, none⟩ = some (.int .i64 r.li) := h.cell 0
theorem RulB.c1 (h : RulB w g r v) : w.cell? ⟨g, 1, none⟩ = some (.int .i64 r.ac) := h.cell 1
theorem RulB.c2 (h : RulB w g r v) : w.cell? ⟨g, 2, none⟩ = some (.int .u64 (r.ca : Int)) := h.cell 2
theorem RulB.c3 (h : RulB w g r v) : w.cell? ⟨g, 3, none⟩ = some v := h.cell 3
theorem RulB.c4 (h : RulB w g r v) : w.cell? ⟨g, 4, none⟩ = some (.int .i64 r.wa) := h.cell 4
theorem RulB.c5 (h : RulB w g r v) : w.cell? ⟨g, 5, none⟩ = some (.string r.pa) := h.cell 5
theorem RulB.c6 (h : RulB w g r v) : w.cell? ⟨g, 6, none⟩ = some (.int .i64 r.pe) := h.cell 6
theorem RulB.c7 (h : RulB w g r v) : w.cell? ⟨g, 7, none⟩ = some (.string r.ke) := h.cell 7
end
end Go.Proofs.YtollifnnpihfdaaGreatDoor

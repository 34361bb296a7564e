/- Texts of one proof, laid together. -/
import Derived.Test.YtpldopoeopjcoaaGreatDoorK04
/- Name of package record; text and number of package expression. -/
namespace Go.Proofs.YtpldopoeopjcoaaGreatDoor
open Go.RowKit
def tyC : Array Value := #[.string ⟨#[85, 83, 69, 82]⟩, .int .i64 1005, .bool true, .string ⟨#[68, 65, 69, 77, 79, 78]⟩, .int .i64 1200, .bool true, .string ⟨#[83, 89, 83, 67, 65, 76, 76]⟩, .int .i64 1300, .bool false, .string ⟨#[80, 65, 84, 72]⟩, .int .i64 1302, .bool false, .string ⟨#[67, 79, 78, 70, 73, 71]⟩, .int .i64 1305, .bool true, .string ⟨#[83, 79, 67, 75, 65, 68, 68, 82]⟩, .int .i64 1306, .bool false, .string ⟨#[67, 87, 68]⟩, .int .i64 1307, .bool false, .string ⟨#[69, 88, 69, 67, 86, 69]⟩, .int .i64 1309, .bool false, .string ⟨#[69, 79, 69]⟩, .int .i64 1320, .bool false, .string ⟨#[76, 79, 83, 83]⟩, .int .i64 1331, .bool true]
abbrev tyL : List (Int × ByteArray) := [(1005, ⟨#[85, 83, 69, 82]⟩), (1200, ⟨#[68, 65, 69, 77, 79, 78]⟩), (1300, ⟨#[83, 89, 83, 67, 65, 76, 76]⟩), (1302, ⟨#[80, 65, 84, 72]⟩), (1305, ⟨#[67, 79, 78, 70, 73, 71]⟩), (1306, ⟨#[83, 79, 67, 75, 65, 68, 68, 82]⟩), (1307, ⟨#[67, 87, 68]⟩), (1309, ⟨#[69, 88, 69, 67, 86, 69]⟩), (1320, ⟨#[69, 79, 69]⟩), (1331, ⟨#[76, 79, 83, 83]⟩)]
def nameL : List (Int × ByteArray) → Int → ByteArray
  | [], _ => ⟨#[]⟩
  | (a, s) :: r, t => if a = t then s else nameL r t
def RTys (w : World) : Prop := Glob w 1 tyC
theorem RTys.below {w w' : World} (h : RTys w) (hb : Below w.heap.size w w') : RTys w' := Glob.below h hb (Nat.le_refl _)
theorem ld_any38 {P : Program} {w : World} {a : Addr} {ty : TypeId} {cs : Array Value} {d : TypeDesc} (h : ∀ j v, cs.toList[j]? = some v → w.cell? (a.add j) = some v)
    (hu : P.underlying ty = some d) (hd : (match d with | .struct _ | .array _ _ => true | _ => false) = true) (hi : (P.info? ty).map (·.size) = some cs.size) :
    (loadVar ty a).run P w = .ok (.agg cs) w := by
  have hl : (loadCells a cs.toList.length).run P w = .ok cs.toList.toArray w := run_loadCells_list (P := P) w a cs.toList h
  cases hq : P.info? ty with
  | none => simp [hq] at hi
  | some i =>
    have hs : i.size = cs.size := by simpa [hq] using hi
    have hagg : (isAgg ty).run P w = .ok true w := by
      unfold isAgg
      rw [Sem.run_bind, run_underlying hu w]
      cases d <;> simp_all
    simp only [Array.length_toList, Array.toArray_toList] at hl
    simp [loadVar, Sem.run_bind, hagg, sizeOf, typeInfo, hq, hs, hl]
theorem ld_ty {w : World} (h : RTys w) : (loadVar 111 ⟨1, 0, none⟩).run Tryz.prog w = .ok (.agg tyC) w :=
  ld_any38 (fun j v hj => by rw [addE_zero, Glob.cell h]; simpa using hj) Tryz.underlying111 rfl (by show _ = some 30; kernel_rfl)
theorem lv3x (a : Addr) (w : World) : (loadVar 3 a).run Tryz.prog w = (load a).run Tryz.prog w := by
  unfold loadVar
  simp [go_sem]
theorem lv9x (a : Addr) (w : World) : (loadVar 9 a).run Tryz.prog w = (load a).run Tryz.prog w := by
  unfold loadVar
  simp [go_sem]
theorem name_step {k : Nat} {t n : Int} {s : ByteArray} {r : List (Int × ByteArray)} (h : nameL tyL t = nameL (tyL.drop k) t) (e : tyL.drop k = (n, s) :: r) : (n = t → nameL tyL t = s) ∧ (n ≠ t → nameL tyL t = nameL r t) := by
  rw [h, e]
  exact ⟨fun h => if_pos h, fun h => if_neg h⟩
theorem ix0 (w : World) : (Instr.index 111 (.agg tyC) (.int .i64 0)).run Tryz.prog w = .ok (.agg #[.string ⟨#[85, 83, 69, 82]⟩, .int .i64 1005, .bool true]) w := by show _ = _; kernel_rfl
theorem ix1 (w : World) : (Instr.index 111 (.agg tyC) (.int .i64 1)).run Tryz.prog w = .ok (.agg #[.string ⟨#[68, 65, 69, 77, 79, 78]⟩, .int .i64 1200, .bool true]) w := by show _ = _; kernel_rfl
theorem ix2 (w : World) : (Instr.index 111 (.agg tyC) (.int .i64 2)).run Tryz.prog w = .ok (.agg #[.string ⟨#[83, 89, 83, 67, 65, 76, 76]⟩, .int .i64 1300, .bool false]) w := by show _ = _; kernel_rfl
theorem ix3 (w : World) : (Instr.index 111 (.agg tyC) (.int .i64 3)).run Tryz.prog w = .ok (.agg #[.string ⟨#[80, 65, 84, 72]⟩, .int .i64 1302, .bool false]) w := by show _ = _; kernel_rfl
theorem ix4 (w : World) : (Instr.index 111 (.agg tyC) (.int .i64 4)).run Tryz.prog w = .ok (.agg #[.string ⟨#[67, 79, 78, 70, 73, 71]⟩, .int .i64 1305, .bool true]) w := by show _ = _; kernel_rfl
theorem ix5 (w : World) : (Instr.index 111 (.agg tyC) (.int .i64 5)).run Tryz.prog w = .ok (.agg #[.string ⟨#[83, 79, 67, 75, 65, 68, 68, 82]⟩, .int .i64 1306, .bool false]) w := by show _ = _; kernel_rfl
theorem ix6 (w : World) : (Instr.index 111 (.agg tyC) (.int .i64 6)).run Tryz.prog w = .ok (.agg #[.string ⟨#[67, 87, 68]⟩, .int .i64 1307, .bool false]) w := by show _ = _; kernel_rfl
theorem ix7 (w : World) : (Instr.index 111 (.agg tyC) (.int .i64 7)).run Tryz.prog w = .ok (.agg #[.string ⟨#[69, 88, 69, 67, 86, 69]⟩, .int .i64 1309, .bool false]) w := by show _ = _; kernel_rfl
theorem ix8 (w : World) : (Instr.index 111 (.agg tyC) (.int .i64 8)).run Tryz.prog w = .ok (.agg #[.string ⟨#[69, 79, 69]⟩, .int .i64 1320, .bool false]) w := by show _ = _; kernel_rfl
theorem ix9 (w : World) : (Instr.index 111 (.agg tyC) (.int .i64 9)).run Tryz.prog w = .ok (.agg #[.string ⟨#[76, 79, 83, 83]⟩, .int .i64 1331, .bool true]) w := by show _ = _; kernel_rfl
attribute [-go_sem] loadVar
attribute [local go_sem] lv3x lv9x ix0 ix1 ix2 ix3 ix4 ix5 ix6 ix7 ix8 ix9
set_option maxRecDepth 100000 in
set_option maxHeartbeats 8000000 in
theorem vrecName (t : Int) (w : World) (h : RTys w) : Calls Tryz.prog 54 #[.int .i64 t] w fun e w' => e = .returned (.string (nameL tyL t)) ∧ Below w.heap.size w w' := by
  have hl := ld_ty h
  clear h
  go_enter Tryz.func54, Tryz.ntmps54
  go_wp2_with fail
  clear hl
  go_loopw [6] (fun i wr => ∃ k : Nat, k ≤ 10 ∧ i = .int .i64 (k : Int) ∧ Hid (nameL tyL t = nameL (tyL.drop k) t) ∧ Below w.heap.size w wr) (fun i _ => 10 - (intOf i).toNat)
  case atStart => exact ⟨0, by omega, rfl, Lib.hid rfl, Below.refl _ _⟩
  case round =>
    obtain ⟨k, hk, rfl, hn, hbw⟩ := hrel
    have HBW := Lib.hid hbw
    clear hbw
    have hcs : k = 10 ∨ k = 0 ∨ k = 1 ∨ k = 2 ∨ k = 3 ∨ k = 4 ∨ k = 5 ∨ k = 6 ∨ k = 7 ∨ k = 8 ∨ k = 9 := by omega
    rcases hcs with rfl | rfl | rfl | rfl | rfl | rfl | rfl | rfl | rfl | rfl | rfl
    · have HR := Lib.hid (show nameL tyL t = ⟨#[]⟩ by rw [hn.out]; rfl)
      go_wp2_with fail
      go_ret
      exact ⟨by rw [HR.out]; rfl, HBW.out⟩
    · obtain ⟨hy, hz⟩ := name_step hn.out (n := 1005) (s := ⟨#[85, 83, 69, 82]⟩) rfl
      have HY := Lib.hid hy
      have HZ := Lib.hid hz
      have HB3 := Lib.hid (HBW.out.alloc HBW.out.size (.cells #[.string ⟨#[85, 83, 69, 82]⟩, .int .i64 1005, .bool true] 110))
      clear hy hz hn
      by_cases ht : 1005 = t
      · have HR := Lib.hid (HY.out ht)
        subst ht
        go_wp2_with fail
        go_ret
        exact ⟨by rw [HR.out]; rfl, HB3.out⟩
      · have HR := Lib.hid (HZ.out ht)
        have ht1 : ((1005 : Int) == t) = false := by simpa using ht
        clear ht
        go_wp2_with fail
        go_roundw
        case rel => exact ⟨1, by omega, by go_num, HR, HB3.out⟩
        case measure => simp [intOf]
    · obtain ⟨hy, hz⟩ := name_step hn.out (n := 1200) (s := ⟨#[68, 65, 69, 77, 79, 78]⟩) rfl
      have HY := Lib.hid hy
      have HZ := Lib.hid hz
      have HB3 := Lib.hid (HBW.out.alloc HBW.out.size (.cells #[.string ⟨#[68, 65, 69, 77, 79, 78]⟩, .int .i64 1200, .bool true] 110))
      clear hy hz hn
      by_cases ht : 1200 = t
      · have HR := Lib.hid (HY.out ht)
        subst ht
        go_wp2_with fail
        go_ret
        exact ⟨by rw [HR.out]; rfl, HB3.out⟩
      · have HR := Lib.hid (HZ.out ht)
        have ht1 : ((1200 : Int) == t) = false := by simpa using ht
        clear ht
        go_wp2_with fail
        go_roundw
        case rel => exact ⟨2, by omega, by go_num, HR, HB3.out⟩
        case measure => simp [intOf]
    · obtain ⟨hy, hz⟩ := name_step hn.out (n := 1300) (s := ⟨#[83, 89, 83, 67, 65, 76, 76]⟩) rfl
      have HY := Lib.hid hy
      have HZ := Lib.hid hz
      have HB3 := Lib.hid (HBW.out.alloc HBW.out.size (.cells #[.string ⟨#[83, 89, 83, 67, 65, 76, 76]⟩, .int .i64 1300, .bool false] 110))
      clear hy hz hn
      by_cases ht : 1300 = t
      · have HR := Lib.hid (HY.out ht)
        subst ht
        go_wp2_with fail
        go_ret
        exact ⟨by rw [HR.out]; rfl, HB3.out⟩
      · have HR := Lib.hid (HZ.out ht)
        have ht1 : ((1300 : Int) == t) = false := by simpa using ht
        clear ht
        go_wp2_with fail
        go_roundw
        case rel => exact ⟨3, by omega, by go_num, HR, HB3.out⟩
        case measure => simp [intOf]
    · obtain ⟨hy, hz⟩ := name_step hn.out (n := 1302) (s := ⟨#[80, 65, 84, 72]⟩) rfl
      have HY := Lib.hid hy
      have HZ := Lib.hid hz
      have HB3 := Lib.hid (HBW.out.alloc HBW.out.size (.cells #[.string ⟨#[80, 65, 84, 72]⟩, .int .i64 1302, .bool false] 110))
      clear hy hz hn
      by_cases ht : 1302 = t
      · have HR := Lib.hid (HY.out ht)
        subst ht
        go_wp2_with fail
        go_ret
        exact ⟨by rw [HR.out]; rfl, HB3.out⟩
      · have HR := Lib.hid (HZ.out ht)
        have ht1 : ((1302 : Int) == t) = false := by simpa using ht
        clear ht
        go_wp2_with fail
        go_roundw
        case rel => exact ⟨4, by omega, by go_num, HR, HB3.out⟩
        case measure => simp [intOf]
    · obtain ⟨hy, hz⟩ := name_step hn.out (n := 1305) (s := ⟨#[67, 79, 78, 70, 73, 71]⟩) rfl
      have HY := Lib.hid hy
      have HZ := Lib.hid hz
      have HB3 := Lib.hid (HBW.out.alloc HBW.out.size (.cells #[.string ⟨#[67, 79, 78, 70, 73, 71]⟩, .int .i64 1305, .bool true] 110))
      clear hy hz hn
      by_cases ht : 1305 = t
      · have HR := Lib.hid (HY.out ht)
        subst ht
        go_wp2_with fail
        go_ret
        exact ⟨by rw [HR.out]; rfl, HB3.out⟩
      · have HR := Lib.hid (HZ.out ht)
        have ht1 : ((1305 : Int) == t) = false := by simpa using ht
        clear ht
        go_wp2_with fail
        go_roundw
        case rel => exact ⟨5, by omega, by go_num, HR, HB3.out⟩
        case measure => simp [intOf]
    · obtain ⟨hy, hz⟩ := name_step hn.out (n := 1306) (s := ⟨#[83, 79, 67, 75, 65, 68, 68, 82]⟩) rfl
      have HY := Lib.hid hy
      have HZ := Lib.hid hz
      have HB3 := Lib.hid (HBW.out.alloc HBW.out.size (.cells #[.string ⟨#[83, 79, 67, 75, 65, 68, 68, 82]⟩, .int .i64 1306, .bool false] 110))
      clear hy hz hn
      by_cases ht : 1306 = t
      · have HR := Lib.hid (HY.out ht)
        subst ht
        go_wp2_with fail
        go_ret
        exact ⟨by rw [HR.out]; rfl, HB3.out⟩
      · have HR := Lib.hid (HZ.out ht)
        have ht1 : ((1306 : Int) == t) = false := by simpa using ht
        clear ht
        go_wp2_with fail
        go_roundw
        case rel => exact ⟨6, by omega, by go_num, HR, HB3.out⟩
        case measure => simp [intOf]
    · obtain ⟨hy, hz⟩ := name_step hn.out (n := 1307) (s := ⟨#[67, 87, 68]⟩) rfl
      have HY := Lib.hid hy
      have HZ := Lib.hid hz
      have HB3 := Lib.hid (HBW.out.alloc HBW.out.size (.cells #[.string ⟨#[67, 87, 68]⟩, .int .i64 1307, .bool false] 110))
      clear hy hz hn
      by_cases ht : 1307 = t
      · have HR := Lib.hid (HY.out ht)
        subst ht
        go_wp2_with fail
        go_ret
        exact ⟨by rw [HR.out]; rfl, HB3.out⟩
      · have HR := Lib.hid (HZ.out ht)
        have ht1 : ((1307 : Int) == t) = false := by simpa using ht
        clear ht
        go_wp2_with fail
        go_roundw
        case rel => exact ⟨7, by omega, by go_num, HR, HB3.out⟩
        case measure => simp [intOf]
    · obtain ⟨hy, hz⟩ := name_step hn.out (n := 1309) (s := ⟨#[69, 88, 69, 67, 86, 69]⟩) rfl
      have HY := Lib.hid hy
      have HZ := Lib.hid hz
      have HB3 := Lib.hid (HBW.out.alloc HBW.out.size (.cells #[.string ⟨#[69, 88, 69, 67, 86, 69]⟩, .int .i64 1309, .bool false] 110))
      clear hy hz hn
      by_cases ht : 1309 = t
      · have HR := Lib.hid (HY.out ht)
        subst ht
        go_wp2_with fail
        go_ret
        exact ⟨by rw [HR.out]; rfl, HB3.out⟩
      · have HR := Lib.hid (HZ.out ht)
        have ht1 : ((1309 : Int) == t) = false := by simpa using ht
        clear ht
        go_wp2_with fail
        go_roundw
        case rel => exact ⟨8, by omega, by go_num, HR, HB3.out⟩
        case measure => simp [intOf]
    · obtain ⟨hy, hz⟩ := name_step hn.out (n := 1320) (s := ⟨#[69, 79, 69]⟩) rfl
      have HY := Lib.hid hy
      have HZ := Lib.hid hz
      have HB3 := Lib.hid (HBW.out.alloc HBW.out.size (.cells #[.string ⟨#[69, 79, 69]⟩, .int .i64 1320, .bool false] 110))
      clear hy hz hn
      by_cases ht : 1320 = t
      · have HR := Lib.hid (HY.out ht)
        subst ht
        go_wp2_with fail
        go_ret
        exact ⟨by rw [HR.out]; rfl, HB3.out⟩
      · have HR := Lib.hid (HZ.out ht)
        have ht1 : ((1320 : Int) == t) = false := by simpa using ht
        clear ht
        go_wp2_with fail
        go_roundw
        case rel => exact ⟨9, by omega, by go_num, HR, HB3.out⟩
        case measure => simp [intOf]
    · obtain ⟨hy, hz⟩ := name_step hn.out (n := 1331) (s := ⟨#[76, 79, 83, 83]⟩) rfl
      have HY := Lib.hid hy
      have HZ := Lib.hid hz
      have HB3 := Lib.hid (HBW.out.alloc HBW.out.size (.cells #[.string ⟨#[76, 79, 83, 83]⟩, .int .i64 1331, .bool true] 110))
      clear hy hz hn
      by_cases ht : 1331 = t
      · have HR := Lib.hid (HY.out ht)
        subst ht
        go_wp2_with fail
        go_ret
        exact ⟨by rw [HR.out]; rfl, HB3.out⟩
      · have HR := Lib.hid (HZ.out ht)
        have ht1 : ((1331 : Int) == t) = false := by simpa using ht
        clear ht
        go_wp2_with fail
        go_roundw
        case rel => exact ⟨10, by omega, by go_num, HR, HB3.out⟩
        case measure => simp [intOf]
theorem xnum (s : ByteArray) (n : Int) (w : World) : Calls Tryz.prog 55 #[.string s, .int .i64 n] w fun e w' => e = .returned (prV ⟨s, 1, n, ⟨#[]⟩⟩) ∧ Below w.heap.size w w' := by
  go_enter Tryz.func55, Tryz.ntmps55
  go_wp2_with fail
  refine bodyPost_ret (pr_ret4 (fn := Tryz.f55) rfl _ _ w.heap.size ⟨s, 1, n, ⟨#[]⟩⟩ rfl (Blk.new w _ _)) rfl ?_
  exact ⟨rfl, (Below.refl _ _).alloc (Nat.le_refl _) _⟩
theorem xtext (s t : ByteArray) (w : World) : Calls Tryz.prog 53 #[.string s, .string t] w fun e w' => e = .returned (prV ⟨s, 2, 0, t⟩) ∧ Below w.heap.size w w' := by
  go_enter Tryz.func53, Tryz.ntmps53
  go_wp2_with fail
  refine bodyPost_ret (pr_ret4 (fn := Tryz.f53) rfl _ _ w.heap.size ⟨s, 2, 0, t⟩ rfl (Blk.new w _ _)) rfl ?_
  exact ⟨rfl, (Below.refl _ _).alloc (Nat.le_refl _) _⟩
end Go.Proofs.YtpldopoeopjcoaaGreatDoor
/- Pairs of package expression. -/
namespace Go.Proofs.YtpldopoeopjcoaaGreatDoor
open Go.RowKit
abbrev pD (p : Pr) : Array Value := #[.string p.nm, .int .i64 p.kd, .int .i64 p.nu, .string p.tx]
def tyP (x : Rm) : Pr := ⟨⟨#[116, 121, 112, 101]⟩, 2, 0, nameL tyL x.r.ty⟩
def hostP (h : ByteArray) : List Pr := if h.toList.isEmpty then [] else [⟨⟨#[104, 111, 115, 116]⟩, 2, 0, h⟩]
def fourP (b n t : Int) (c : Bool) : List Pr := [⟨⟨#[98, 111, 111, 116]⟩, 1, b, ⟨#[]⟩⟩, ⟨⟨#[115, 101, 114, 105, 97, 108]⟩, 1, n, ⟨#[]⟩⟩, ⟨⟨#[116, 105, 109, 101]⟩, 1, t, ⟨#[]⟩⟩, ⟨⟨#[99, 111, 109, 112, 108, 101, 116, 101]⟩, 1, if c = true then 1 else 0, ⟨#[]⟩⟩]
/-- The pairs of an event of a machine. -/
def pairsE (h : ByteArray) (b n t : Int) (c : Bool) (X : List Rm) : List Pr := (hostP h ++ X.map tyP ++ fourP b n t c) ++ X.flatMap (·.r.ps)
/-- Records in memory. -/
structure EvAt (w : World) (A : Option Addr) (X : List Rm) : Prop where
  ats : AtE ER w w.heap.size A X
  ps : ∀ x ∈ X, AtE EP w w.heap.size x.A x.r.ps ∧ x.r.ps.length ≤ 11
  ln : X.length ≤ 3
theorem EvAt.below {w w' : World} {A : Option Addr} {X : List Rm} (h : EvAt w A X) (hb : Below w.heap.size w w') : EvAt w' A X := ⟨h.ats.below hb, fun x hx => ⟨(h.ps x hx).1.below hb, (h.ps x hx).2⟩, h.ln⟩
/-- The list that Pairs makes. -/
structure PLst (w wr : World) (cs : Array Value) (v : Value) (L : List Pr) : Prop where
  low : Below w.heap.size w wr
  eb : Blk wr w.heap.size 39 cs
  own : OwnE EP wr (w.heap.size + 1) v L
section
variable {w wr w' : World} {cs : Array Value} {v v' : Value} {L L' : List Pr}
theorem PLst.below (h : PLst w wr cs v L) (hb : Below wr.heap.size wr w') : PLst w w' cs v L := ⟨below_then h.low hb, Blk.below h.eb hb, h.own.below hb⟩
theorem PLst.alloc (h : PLst w wr cs v L) (o : Obj) : PLst w (wr.alloc o) cs v L := h.below ((Below.refl _ _).alloc (Nat.le_refl _) o)
theorem PLst.drew (h : PLst w wr cs v L) : PLst w wr.drew cs v L := h.below (Below.refl _ _).drew
theorem PLst.app (h : PLst w wr cs v L) (hg : wr.grownBy w' v.ownBlock) (ho : OwnE EP w' (w.heap.size + 1) v' L') : PLst w w' cs v' L' :=
  ⟨h.low.grown hg h.low.size (fun k e => by have := h.own.ge k e; omega), Blk.grown h.eb hg (fun e => by have := h.own.ge _ e; omega), ho⟩
end
theorem r_cells {w : World} {a : Addr} {x : Rm} (h : ∀ j, j < 4 → w.cell? (a.add j) = (ER.C x)[j]?) :
    w.cell? a = some (.int .i64 x.r.ty) ∧ w.cell? ⟨a.block, a.off + 1, none⟩ = some (.int .i64 x.r.ti) ∧ w.cell? ⟨a.block, a.off + 2, none⟩ = some (.int .i64 x.r.se) ∧ w.cell? ⟨a.block, a.off + 3, none⟩ = some (.slice x.A x.r.ps.length x.c) :=
  ⟨h 0 (by omega), h 1 (by omega), h 2 (by omega), h 3 (by omega)⟩
theorem map_take {α β : Type} (f : α → β) (l : List α) (k : Nat) (hk : k < l.length) : (l.take (k + 1)).map f = (l.take k).map f ++ [f l[k]] := by
  rw [List.take_succ_eq_append_getElem hk, List.map_append]; rfl
theorem flat_take {α β : Type} (f : α → List β) (l : List α) (k : Nat) (hk : k < l.length) : (l.take (k + 1)).flatMap f = (l.take k).flatMap f ++ f l[k] := by
  rw [List.take_succ_eq_append_getElem hk, List.flatMap_append]; simp
def PPost (L : List Pr) (w : World) (e : Ending) (w' : World) : Prop := ∃ (A : Option Addr) (c : Nat), e = .returned (.slice A L.length c) ∧ OwnE EP w' (w.heap.size + 1) (.slice A L.length c) L ∧ Below w.heap.size w w'
set_option maxRecDepth 100000 in
set_option maxHeartbeats 16000000 in
theorem vpairs (h : ByteArray) (b n t : Int) (A : Option Addr) (k0 cp : Nat) (c : Bool) (X : List Rm) (hk0 : k0 = X.length) (w : World) (hX : EvAt w A X) (hT : RTys w) :
    Calls Tryz.prog 35 #[.string h, .agg (evC b n t (.slice A k0 cp) c)] w (PPost (pairsE h b n t c X) w) := by
  have HX := Lib.hid hX
  have HT := Lib.hid (fun (W : World) (h : Below w.heap.size w W) => hT.below h)
  have HK0 := Lib.hid hk0
  have hk3 : k0 ≤ 3 := by rw [hk0]; exact hX.ln
  have P0 := Lib.hid (show PLst w (w.alloc (.cells (evC b n t (.slice A k0 cp) c) 39)) (evC b n t (.slice A k0 cp) c) (.slice none 0 0) [] from ⟨(Below.refl _ _).alloc (Nat.le_refl _) _, Blk.new w _ _, OwnE.nil _ _⟩)
  clear hX hT hk0
  go_enter Tryz.func35, Tryz.ntmps35
  go_upto_if 12 with (fail)
  go_cut [5] (fun v wx => PLst w wx (evC b n t (.slice A k0 cp) c) v (hostP h))
  case first =>
    cases he : h.toList.isEmpty
    · have HH := Lib.hid (show hostP h = [⟨⟨#[104, 111, 115, 116]⟩, 2, 0, h⟩] by unfold hostP; rw [he]; rfl)
      go_wp2_with fail
      refine (xtext _ h _).mono ?_
      rintro e w1 ⟨rfl, hb1⟩
      have P1 := Lib.hid ((P0.out.below hb1).alloc (.cells (pD ⟨⟨#[104, 111, 115, 116]⟩, 2, 0, h⟩) 58))
      have RW := Lib.hid (row_newE EP w1 (pD ⟨⟨#[104, 111, 115, 116]⟩, 2, 0, h⟩) 58 ⟨⟨#[104, 111, 115, 116]⟩, 2, 0, h⟩ rfl (Nat.lt_succ_self w1.heap.size))
      have hbase : w.heap.size + 1 ≤ (w1.alloc (.cells (pD ⟨⟨#[104, 111, 115, 116]⟩, 2, 0, h⟩) 58)).heap.size := by have := P1.out.eb.lt; exact this
      clear hb1
      go_wp2_with (refine wpList_append_el EP rfl (.tmp 13) (.tmp 16) rfl (w.heap.size + 1) (.slice none 0 0) [] rfl P1.out.own (w1.heap.size + 1) (some ⟨w1.heap.size, 0, none⟩) 1 1 [⟨⟨#[104, 111, 115, 116]⟩, 2, 0, h⟩] rfl rfl RW.out (by simp) hbase ?_; intro v6 w6 ho6 hg6 hat6)
      have P2 := Lib.hid (P1.out.app hg6 ho6)
      clear ho6 hg6 hat6
      go_wp2_with fail
      go_meet
      rw [HH.out]
      exact P2.out
    · have HH := Lib.hid (show hostP h = [] by unfold hostP; rw [he]; rfl)
      go_wp2_with fail
      go_meet
      rw [HH.out]
      exact P0.out
  case rest =>
  have P3 := Lib.hid hcut
  clear hcut P0
  have q3 := P3.out.eb.cell 3
  go_wp2_with fail
  clear q3
  go_loopw [5, 21] (fun v i wr => ∃ k : Nat, k ≤ k0 ∧ i = .int .i64 (k : Int) ∧ PLst w wr (evC b n t (.slice A k0 cp) c) v (hostP h ++ (X.take k).map tyP)) (fun _ i _ => k0 - (intOf i).toNat)
  case atStart => exact ⟨0, Nat.zero_le _, rfl, by simpa using P3.out⟩
  case round =>
    obtain ⟨k, hk, rfl, hp⟩ := hrel
    generalize u5 = v at *
    clear P3
    by_cases hlt : k < k0
    · have hkX : k < X.length := by rw [← HK0.out]; exact hlt
      have hlt1 : (k : Int) < (k0 : Int) := by omega
      obtain ⟨ad, rfl, hab, hcx⟩ := (HX.out.below hp.low).ats k hkX
      obtain ⟨s0, s1, s2, s3⟩ := r_cells (a := ad.add (k * 4)) hcx
      have HM := Lib.hid (map_take tyP X k hkX)
      have HLX := Lib.hid (HX.out.ln)
      generalize X[k] = x at *
      have X3 := Lib.hid (Blk.new wr (rcC x.r x.sl) 63)
      have P4 := Lib.hid (hp.alloc (.cells (rcC x.r x.sl) 63))
      have y0 := X3.out.cell 0
      clear hcx hp
      go_wp2_with fail
      refine (vrecName x.r.ty _ (HT.out _ P4.out.low)).mono ?_
      rintro e w1 ⟨rfl, hb1⟩
      have P5 := Lib.hid (P4.out.below hb1)
      clear hb1 s0 s1 s2 s3 y0
      go_wp2_with fail
      refine (xtext _ _ _).mono ?_
      rintro e w2 ⟨rfl, hb2⟩
      have P6 := Lib.hid ((P5.out.below hb2).alloc (.cells (pD (tyP x)) 58))
      have RW := Lib.hid (row_newE EP w2 (pD (tyP x)) 58 (tyP x) rfl (Nat.lt_succ_self w2.heap.size))
      have hbase : w.heap.size + 1 ≤ (w2.alloc (.cells (pD (tyP x)) 58)).heap.size := by have := P6.out.eb.lt; exact this
      have hLn : (hostP h ++ (X.take k).map tyP).length ≤ 100 := by
        have : (hostP h).length ≤ 1 := by unfold hostP; split <;> simp
        have := HLX.out
        simp only [List.length_append, List.length_map, List.length_take]
        omega
      clear hb2
      go_wp2_with (refine wpList_append_el EP rfl (.tmp 25) (.tmp 30) rfl (w.heap.size + 1) v (hostP h ++ (X.take k).map tyP) rfl P6.out.own (w2.heap.size + 1) (some ⟨w2.heap.size, 0, none⟩) 1 1 [tyP x] rfl rfl RW.out (by simp only [List.length_singleton]; omega) hbase ?_; intro v6 w6 ho6 hg6 hat6)
      have P7 := Lib.hid (P6.out.app hg6 ho6)
      clear ho6 hg6 hat6
      go_wp2_with fail
      go_roundw
      case rel => exact ⟨k + 1, by omega, by go_num, by rw [HM.out, ← List.append_assoc]; exact P7.out⟩
      case measure => simp [intOf]; omega
    · have hkn : k = k0 := by omega
      have hlt1 : ¬ (k : Int) < (k0 : Int) := by omega
      have P8 := Lib.hid (show PLst w wr (evC b n t (.slice A k0 cp) c) v (hostP h ++ X.map tyP) by rw [hkn, HK0.out, List.take_length, ← HK0.out] at hp; exact hp)
      -- behind the loop
      clear hp
      have q4 := P8.out.eb.cell 4
      clear hkn
      go_upto_if 34 with (fail)
      go_cut [8] (fun u wx => u = .int .i64 (if c = true then 1 else 0) ∧ wx = wr)
      case first =>
        cases c
        all_goals
          go_wp2_with fail
          go_meet
          exact ⟨rfl, rfl⟩
      case rest =>
      obtain ⟨e8, e9⟩ := hcut
      subst e8 e9
      clear q4
      generalize hcc : (if c = true then (1 : Int) else 0) = cc at *
      have P9 := Lib.hid P8.out.drew
      go_upto_region 12 with (fail)
      refine wp_region_held_drew (S := (fun w' => Blk w' w.heap.size 39 (evC b n t (.slice A k0 cp) c))) (by kernel_rfl) P9.out.eb (fun hHeld => ?_)
      refine wpAnyH_take (i := 0) (v := ?_) rfl (by kernel_rfl) (by kernel_rfl) (by kernel_rfl) (fun _ _ _ h => h) (Or.inl ⟨by kernel_rfl, ?_⟩) hHeld ?_
      rotate_left
      · intro w hSw
        go_simp
        first | (with_reducible rfl) | (rw [if_neg (by first | omega | (simp; omega))])
      refine wpAnyH_take (i := 1) (v := ?_) rfl (by kernel_rfl) (by kernel_rfl) (by kernel_rfl) (fun _ _ _ h => h) (Or.inl ⟨by kernel_rfl, ?_⟩) hHeld ?_
      rotate_left
      · intro w hSw
        go_simp
        first | (with_reducible rfl) | (rw [if_neg (by first | omega | (simp; omega))])
      refine wpAnyH_take (i := 2) (v := ?_) rfl (by kernel_rfl) (by kernel_rfl) (by kernel_rfl) (fun _ _ _ h => h) (Or.inl ⟨by kernel_rfl, ?_⟩) hHeld ?_
      rotate_left
      · intro w hSw
        have kk := hSw.cell 0
        go_simp
        first | (with_reducible rfl) | (rw [if_neg (by first | omega | (simp; omega))])
      refine wpAnyH_take (i := 4) (v := ?_) rfl (by kernel_rfl) (by kernel_rfl) (by kernel_rfl) (fun _ _ _ h => h) (Or.inl ⟨by kernel_rfl, ?_⟩) hHeld ?_
      rotate_left
      · intro w hSw
        go_simp
        first | (with_reducible rfl) | (rw [if_neg (by first | omega | (simp; omega))])
      refine wpAnyH_take (i := 5) (v := ?_) rfl (by kernel_rfl) (by kernel_rfl) (by kernel_rfl) (fun _ _ _ h => h) (Or.inl ⟨by kernel_rfl, ?_⟩) hHeld ?_
      rotate_left
      · intro w hSw
        have kk := hSw.cell 1
        go_simp
        first | (with_reducible rfl) | (rw [if_neg (by first | omega | (simp; omega))])
      refine wpAnyH_take (i := 7) (v := ?_) rfl (by kernel_rfl) (by kernel_rfl) (by kernel_rfl) (fun _ _ _ h => h) (Or.inl ⟨by kernel_rfl, ?_⟩) hHeld ?_
      rotate_left
      · intro w hSw
        go_simp
        first | (with_reducible rfl) | (rw [if_neg (by first | omega | (simp; omega))])
      refine wpAnyH_take (i := 8) (v := ?_) rfl (by kernel_rfl) (by kernel_rfl) (by kernel_rfl) (fun _ _ _ h => h) (Or.inl ⟨by kernel_rfl, ?_⟩) hHeld ?_
      rotate_left
      · intro w hSw
        have kk := hSw.cell 2
        go_simp
        first | (with_reducible rfl) | (rw [if_neg (by first | omega | (simp; omega))])
      refine wpAnyH_take (i := 10) (v := ?_) rfl (by kernel_rfl) (by kernel_rfl) (by kernel_rfl) (fun _ _ _ h => h) (Or.inl ⟨by kernel_rfl, ?_⟩) hHeld ?_
      rotate_left
      · intro w hSw
        go_simp
        first | (with_reducible rfl) | (rw [if_neg (by first | omega | (simp; omega))])
      refine wpAnyH_ready (rs := [3]) (by kernel_rfl) (by simp) ?_
      refine AllReadyH.cons rfl (fun K hK => ?_) AllReadyH.nil
      go_simp
      refine (xnum _ _ _).mono ?_
      rintro e wl ⟨rfl, hb⟩
      have P9 := Lib.hid (P9.out.below hb)
      clear hb
      have hh := P9.out.eb
      go_simp
      refine hK.out _ _ hh (fun hHeld => ?_)
      clear hK K
      clear hh
      refine wpAnyH_ready (rs := [6]) (by kernel_rfl) (by simp) ?_
      refine AllReadyH.cons rfl (fun K hK => ?_) AllReadyH.nil
      go_simp
      refine (xnum _ _ _).mono ?_
      rintro e wl ⟨rfl, hb⟩
      have P9 := Lib.hid (P9.out.below hb)
      clear hb
      have hh := P9.out.eb
      go_simp
      refine hK.out _ _ hh (fun hHeld => ?_)
      clear hK K
      clear hh
      refine wpAnyH_ready (rs := [9]) (by kernel_rfl) (by simp) ?_
      refine AllReadyH.cons rfl (fun K hK => ?_) AllReadyH.nil
      go_simp
      refine (xnum _ _ _).mono ?_
      rintro e wl ⟨rfl, hb⟩
      have P9 := Lib.hid (P9.out.below hb)
      clear hb
      have hh := P9.out.eb
      go_simp
      refine hK.out _ _ hh (fun hHeld => ?_)
      clear hK K
      clear hh
      refine wpAnyH_ready (rs := [11]) (by kernel_rfl) (by simp) ?_
      refine AllReadyH.cons rfl (fun K hK => ?_) AllReadyH.nil
      go_simp
      refine (xnum _ _ _).mono ?_
      rintro e wl ⟨rfl, hb⟩
      have P9 := Lib.hid (P9.out.below hb)
      clear hb
      have hh := P9.out.eb
      go_simp
      refine hK.out _ _ hh (fun hHeld => ?_)
      clear hK K
      clear hh
      refine wpAnyH_ready (rs := [12]) (by kernel_rfl) (by simp) ?_
      refine AllReadyH.cons rfl (fun K hK => ?_) AllReadyH.nil
      have PA := Lib.hid (P9.out.alloc (.cells #[.string ⟨#[98, 111, 111, 116]⟩, .int .i64 1, .int .i64 b, .string ⟨#[]⟩, .string ⟨#[115, 101, 114, 105, 97, 108]⟩, .int .i64 1, .int .i64 n, .string ⟨#[]⟩, .string ⟨#[116, 105, 109, 101]⟩, .int .i64 1, .int .i64 t, .string ⟨#[]⟩, .string ⟨#[99, 111, 109, 112, 108, 101, 116, 101]⟩, .int .i64 1, .int .i64 cc, .string ⟨#[]⟩] 58))
      have hh := PA.out.eb
      go_simp
      refine hK.out _ _ hh (fun hHeld => ?_)
      clear hK K
      clear hh
      have FE : fourP b n t c = [⟨⟨#[98, 111, 111, 116]⟩, 1, b, ⟨#[]⟩⟩, ⟨⟨#[115, 101, 114, 105, 97, 108]⟩, 1, n, ⟨#[]⟩⟩, ⟨⟨#[116, 105, 109, 101]⟩, 1, t, ⟨#[]⟩⟩, ⟨⟨#[99, 111, 109, 112, 108, 101, 116, 101]⟩, 1, cc, ⟨#[]⟩⟩] := by unfold fourP; rw [hcc]
      have RW : AtE EP (wl.alloc (.cells #[.string ⟨#[98, 111, 111, 116]⟩, .int .i64 1, .int .i64 b, .string ⟨#[]⟩, .string ⟨#[115, 101, 114, 105, 97, 108]⟩, .int .i64 1, .int .i64 n, .string ⟨#[]⟩, .string ⟨#[116, 105, 109, 101]⟩, .int .i64 1, .int .i64 t, .string ⟨#[]⟩, .string ⟨#[99, 111, 109, 112, 108, 101, 116, 101]⟩, .int .i64 1, .int .i64 cc, .string ⟨#[]⟩] 58)) (wl.heap.size + 1) (some ⟨wl.heap.size, 0, none⟩) (fourP b n t c) := by
        intro k hk
        refine ⟨_, rfl, Nat.lt_succ_self _, fun j hj => ?_⟩
        rw [addE_at, (Blk.new wl _ _).cell, ← Array.getElem?_toList, show (#[.string ⟨#[98, 111, 111, 116]⟩, .int .i64 1, .int .i64 b, .string ⟨#[]⟩, .string ⟨#[115, 101, 114, 105, 97, 108]⟩, .int .i64 1, .int .i64 n, .string ⟨#[]⟩, .string ⟨#[116, 105, 109, 101]⟩, .int .i64 1, .int .i64 t, .string ⟨#[]⟩, .string ⟨#[99, 111, 109, 112, 108, 101, 116, 101]⟩, .int .i64 1, .int .i64 cc, .string ⟨#[]⟩] : Array Value).toList = (fourP b n t c).flatMap EP.C by rw [FE]; rfl, EP.flat_at (fourP b n t c) k hk j hj]
      have RW := Lib.hid RW
      have hbase : w.heap.size + 1 ≤ (wl.alloc (.cells #[.string ⟨#[98, 111, 111, 116]⟩, .int .i64 1, .int .i64 b, .string ⟨#[]⟩, .string ⟨#[115, 101, 114, 105, 97, 108]⟩, .int .i64 1, .int .i64 n, .string ⟨#[]⟩, .string ⟨#[116, 105, 109, 101]⟩, .int .i64 1, .int .i64 t, .string ⟨#[]⟩, .string ⟨#[99, 111, 109, 112, 108, 101, 116, 101]⟩, .int .i64 1, .int .i64 cc, .string ⟨#[]⟩] 58)).heap.size := by have := PA.out.eb.lt; exact this
      have hLn : (hostP h ++ X.map tyP).length ≤ 100 := by
        have : (hostP h).length ≤ 1 := by unfold hostP; split <;> simp
        have := HX.out.ln
        simp only [List.length_append, List.length_map]
        omega
      refine wpAnyH_ready (rs := [13]) (by kernel_rfl) (by simp) ?_
      refine AllReadyH.cons rfl (fun K hK => ?_) AllReadyH.nil
      refine step_append_el EP (by rfl) (.tmp 35) (.tmp 47) (by rfl) (w.heap.size + 1) v (hostP h ++ X.map tyP) (by rfl) PA.out.own (wl.heap.size + 1) (some ⟨wl.heap.size, 0, none⟩) 4 4 (fourP b n t c) (by rfl) (by rfl) RW.out (by rw [FE]; simp only [List.length_cons, List.length_nil]; omega) hbase ?_
      intro v4 w4 own4 hg4 hat4
      have PB := Lib.hid (PA.out.app hg4 own4)
      have hh := PB.out.eb
      refine hK.out _ _ hh (fun hHeld => ?_)
      clear hK K
      clear hh own4 hg4 hat4
      refine wpAnyH_take (i := 14) (v := ?_) rfl (by kernel_rfl) (by kernel_rfl) (by kernel_rfl) (fun _ _ _ h => h) (Or.inl ⟨by kernel_rfl, ?_⟩) hHeld ?_
      rotate_left
      · intro w hSw
        go_simp
        first | (with_reducible rfl) | (rw [if_neg (by first | omega | (simp; omega))])
      refine wpAnyH_done (by kernel_rfl) ?_ _
      clear hHeld P9 PA RW FE
      have q3 := PB.out.eb.cell 3
      go_wp2_with fail
      clear q3
      go_loopw [5, 52] (fun v i wr => ∃ k : Nat, k ≤ k0 ∧ i = .int .i64 (k : Int) ∧ PLst w wr (evC b n t (.slice A k0 cp) c) v ((hostP h ++ X.map tyP ++ fourP b n t c) ++ (X.take k).flatMap (·.r.ps))) (fun _ i _ => k0 - (intOf i).toNat)
      case atStart => exact ⟨0, Nat.zero_le _, rfl, by simpa using PB.out⟩
      case round =>
        obtain ⟨k, hk, rfl, hp⟩ := hrel
        clear PB
        generalize u5 = v at *
        have hPn : (hostP h ++ X.map tyP ++ fourP b n t c).length ≤ 104 := by
          have e4 : (fourP b n t c).length = 4 := rfl
          rw [List.length_append, e4]; omega
        generalize hPP : hostP h ++ X.map tyP ++ fourP b n t c = P at *
        have HPE := Lib.hid (show pairsE h b n t c X = P ++ X.flatMap (·.r.ps) by unfold pairsE; rw [hPP])
        clear hPP
        have hFl : ∀ k, k ≤ 3 → ((X.take k).flatMap (·.r.ps)).length ≤ 33 := by
          intro k hk
          have : ∀ (Y : List Rm), (∀ x ∈ Y, x.r.ps.length ≤ 11) → (Y.flatMap (·.r.ps)).length ≤ 11 * Y.length := by
            intro Y hY
            induction Y with
            | nil => simp
            | cons a r ih =>
              have h1 := hY a (by simp)
              have h2 := ih (fun x hx => hY x (by simp [hx]))
              rw [List.flatMap_cons, List.length_append, List.length_cons]
              omega
          have h1 := this (X.take k) (fun x hx => (HX.out.ps x (List.mem_of_mem_take hx)).2)
          have h2 : (X.take k).length ≤ 3 := by rw [List.length_take]; omega
          omega
        by_cases hlt : k < k0
        · have hkX : k < X.length := by rw [← HK0.out]; exact hlt
          have hlt1 : (k : Int) < (k0 : Int) := by omega
          obtain ⟨ad, rfl, hab, hcx⟩ := (HX.out.below hp.low).ats k hkX
          obtain ⟨s0, s1, s2, s3⟩ := r_cells (a := ad.add (k * 4)) hcx
          have HM := Lib.hid (flat_take (fun x : Rm => x.r.ps) X k hkX)
          have hpx := (HX.out.below hp.low).ps _ (List.getElem_mem hkX)
          have hfk := hFl k (by omega)
          generalize X[k] = x at *
          have X3 := Lib.hid (Blk.new wr (rcC x.r x.sl) 63)
          have P4 := Lib.hid (hp.alloc (.cells (rcC x.r x.sl) 63))
          have RX := Lib.hid (hpx.1.below ((Below.refl wr.heap.size wr).alloc (Nat.le_refl _) (.cells (rcC x.r x.sl) 63)))
          have hlx := hpx.2
          have y3 := X3.out.cell 3
          have hbase2 : w.heap.size + 1 ≤ (wr.alloc (.cells (rcC x.r x.sl) 63)).heap.size := by have := P4.out.eb.lt; exact this
          clear hcx hp hpx
          go_wp2_with (refine wpList_append_el EP rfl (.tmp 56) (.tmp 58) rfl (w.heap.size + 1) v (P ++ (X.take k).flatMap (fun x => x.r.ps)) rfl P4.out.own _ x.A x.r.ps.length x.c x.r.ps rfl rfl RX.out (by rw [List.length_append]; omega) hbase2 ?_; intro v6 w6 ho6 hg6 hat6)
          have P7 := Lib.hid (P4.out.app hg6 ho6)
          clear ho6 hg6 hat6 s0 s1 s2 s3 y3
          go_wp2_with fail
          go_roundw
          case rel => exact ⟨k + 1, by omega, by go_num, by rw [HM.out, ← List.append_assoc]; exact P7.out⟩
          case measure => simp [intOf]; omega
        · have hkn : k = k0 := by omega
          have hlt1 : ¬ (k : Int) < (k0 : Int) := by omega
          have hp2 : PLst w wr (evC b n t (.slice A k0 cp) c) v (P ++ X.flatMap (·.r.ps)) := by rw [hkn, HK0.out, List.take_length, ← HK0.out] at hp; exact hp
          obtain ⟨A', c', e', _⟩ := hp2.own.at
          obtain ⟨nn, hnn⟩ : ∃ nn, nn = (P ++ X.flatMap (·.r.ps)).length := ⟨_, rfl⟩
          rw [← hnn] at e'
          subst e'
          have PF := Lib.hid hp2
          have HNN := Lib.hid hnn
          clear hp hp2 hkn hFl hnn
          go_wp2_with fail
          go_ret
          exact ⟨A', c', by rw [HPE.out, ← HNN.out]; rfl, by rw [HPE.out, ← HNN.out]; exact PF.out.own, PF.out.low⟩
end Go.Proofs.YtpldopoeopjcoaaGreatDoor

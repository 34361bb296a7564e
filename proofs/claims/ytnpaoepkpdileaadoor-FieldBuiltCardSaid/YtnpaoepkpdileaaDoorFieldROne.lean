/- one, sound of the reference. -/
import Derived.Test.YtnpaoepkpdileaaDoorFieldVEv
import Derived.Test.YtnpaoepkpdileaaDoorFieldRNum
import Derived.Test.YtnpaoepkpdileaaDoorFieldRChk
import Derived.Deep.RegionLaw
namespace Go.Proofs.YtnpaoepkpdileaaDoor
open Go.RowKit
theorem test_drew' {w : World} {g : Nat} {t : TypeId} {cs : Array Value} (h : Blk w g t cs) : Blk w.drew g t cs := h
theorem holdsF_text {c : Ctx} {fd op nu : Int} {tx : ByteArray} {ot : Int} {i : Itm} (h : textB fd = true) : holdsF c fd op nu tx ot i = (((if fd = 14 then c.comm else c.exe).toList == tx.toList) == decide (op = 1)) := by
  unfold holdsF; rw [if_pos h]
theorem holdsF_num {c : Ctx} {fd op nu : Int} {tx : ByteArray} {ot : Int} {i : Itm} (h : textB fd = false) : holdsF c fd op nu tx ot i = cmpF op (valF c i fd) (if ot = 0 then nu else valF c i ot) := by
  unfold holdsF; rw [if_neg (by rw [h]; decide)]
theorem step_load_row {P : Program} {ops : Array Oper} {o : Oper} {a : Act} {w : World} {K : Act → World → Prop} {Q : Exit → Act → World → Prop} {E : Prop} (hw : Region.wanted o (yielded ops a.tmps) = true) (ty : TypeId) (x : Operand) (ho : o.op = .load ty x)
    {g : Nat} {t : TypeId} {cs : Array Value} (hg : Blk w g t cs) (hx : a.eval x = .pointer (some ⟨g, 0, none⟩)) (d : TypeDesc)
    (hu : P.underlying ty = some d) (hd : (match d with | .struct _ | .array _ _ => true | _ => false) = true) (hi : (P.info? ty).map (·.size) = some cs.size)
    (h : K (a.put o.dst (.agg cs)) w) : if Region.wanted o (yielded ops a.tmps) = true then Oper.wp P o a w K Q else E := by
  rw [if_pos hw]
  exact wp_load_row ty x ho g hx t cs (0, 0) d hg hu hd hi h
theorem lv3 (a : Addr) (w : World) : (loadVar 3 a).run Tryd.prog w = (load a).run Tryd.prog w := by
  unfold loadVar
  simp [go_sem]
theorem lv9 (a : Addr) (w : World) : (loadVar 9 a).run Tryd.prog w = (load a).run Tryd.prog w := by
  unfold loadVar
  simp [go_sem]
theorem ld_ctx {w : World} {g : Nat} {c : Ctx} {r : CRest} {it : Value} (h : CtxB w g c r it) : (loadVar 35 ⟨g, 0, none⟩).run Tryd.prog w = .ok (.agg (ctxC c r it)) w := run_loadVar_row w g _ _ _ _ _ h Tryd.underlying35 rfl (ctx_sz _ _ _)
theorem ld_itm {w : World} {g : Nat} {i : Itm} {r : IRest} (h : ItmB w g i r) : (loadVar 69 ⟨g, 0, none⟩).run Tryd.prog w = .ok (.agg (itemC i r)) w := run_loadVar_row w g _ _ _ _ _ h Tryd.underlying69 rfl (item_sz _ _)
theorem ctxC_lit (c : Ctx) (r : CRest) (it : Value) : ctxC c r it = #[.int .i64 c.ph, .int .i64 (c.p 0), .int .i64 (c.p 1), .int .i64 (c.p 2), .int .i64 (c.p 3), .int .i64 (c.p 4), .int .i64 (c.p 5), .int .i64 (c.p 6), .int .i64 (c.p 7), .int .i64 r.d, .int .i64 r.i, .string c.comm, .string c.exe, r.o.v, .bool r.u, .int .i64 r.n, .int .i64 (c.a 0), .int .i64 (c.a 1), .int .i64 (c.a 2), .int .i64 (c.a 3), r.ps.v, r.gs.v, .int .i64 c.ex, it, .int .i64 c.ty] := rfl
theorem itemC_lit (i : Itm) (r : IRest) : itemC i r = #[.string r.gv, .string r.pa, .int .i64 r.dd, .int .i64 r.di, .string r.nm, .int .i64 i.dev, .int .i64 i.ino, .int .i64 r.ro, .int .i64 i.kind, .int .i64 r.mo, .int .i64 i.uid, .int .i64 i.gid, .int .i64 r.pe] := rfl
theorem ctx_all {w : World} {g : Nat} {c : Ctx} {r : CRest} {it : Value} (h : CtxB w g c r it) : w.cell? ⟨g, 0, none⟩ = some (.int .i64 c.ph) ∧ w.cell? ⟨g, 1, none⟩ = some (.int .i64 (c.p 0)) ∧ w.cell? ⟨g, 2, none⟩ = some (.int .i64 (c.p 1)) ∧ w.cell? ⟨g, 3, none⟩ = some (.int .i64 (c.p 2)) ∧ w.cell? ⟨g, 4, none⟩ = some (.int .i64 (c.p 3)) ∧ w.cell? ⟨g, 5, none⟩ = some (.int .i64 (c.p 4)) ∧ w.cell? ⟨g, 6, none⟩ = some (.int .i64 (c.p 5)) ∧ w.cell? ⟨g, 7, none⟩ = some (.int .i64 (c.p 6)) ∧ w.cell? ⟨g, 8, none⟩ = some (.int .i64 (c.p 7)) ∧ w.cell? ⟨g, 9, none⟩ = some (.int .i64 r.d) ∧ w.cell? ⟨g, 10, none⟩ = some (.int .i64 r.i) ∧ w.cell? ⟨g, 11, none⟩ = some (.string c.comm) ∧ w.cell? ⟨g, 12, none⟩ = some (.string c.exe) ∧ w.cell? ⟨g, 13, none⟩ = some (r.o.v) ∧ w.cell? ⟨g, 14, none⟩ = some (.bool r.u) ∧ w.cell? ⟨g, 15, none⟩ = some (.int .i64 r.n) ∧ w.cell? ⟨g, 16, none⟩ = some (.int .i64 (c.a 0)) ∧ w.cell? ⟨g, 17, none⟩ = some (.int .i64 (c.a 1)) ∧ w.cell? ⟨g, 18, none⟩ = some (.int .i64 (c.a 2)) ∧ w.cell? ⟨g, 19, none⟩ = some (.int .i64 (c.a 3)) ∧ w.cell? ⟨g, 20, none⟩ = some (r.ps.v) ∧ w.cell? ⟨g, 21, none⟩ = some (r.gs.v) ∧ w.cell? ⟨g, 22, none⟩ = some (.int .i64 c.ex) ∧ w.cell? ⟨g, 23, none⟩ = some (it) ∧ w.cell? ⟨g, 24, none⟩ = some (.int .i64 c.ty) :=
  ⟨h.cell 0, h.cell 1, h.cell 2, h.cell 3, h.cell 4, h.cell 5, h.cell 6, h.cell 7, h.cell 8, h.cell 9, h.cell 10, h.cell 11, h.cell 12, h.cell 13, h.cell 14, h.cell 15, h.cell 16, h.cell 17, h.cell 18, h.cell 19, h.cell 20, h.cell 21, h.cell 22, h.cell 23, h.cell 24⟩
theorem itm_all {w : World} {g : Nat} {i : Itm} {r : IRest} (h : ItmB w g i r) : w.cell? ⟨g, 0, none⟩ = some (.string r.gv) ∧ w.cell? ⟨g, 1, none⟩ = some (.string r.pa) ∧ w.cell? ⟨g, 2, none⟩ = some (.int .i64 r.dd) ∧ w.cell? ⟨g, 3, none⟩ = some (.int .i64 r.di) ∧ w.cell? ⟨g, 4, none⟩ = some (.string r.nm) ∧ w.cell? ⟨g, 5, none⟩ = some (.int .i64 i.dev) ∧ w.cell? ⟨g, 6, none⟩ = some (.int .i64 i.ino) ∧ w.cell? ⟨g, 7, none⟩ = some (.int .i64 r.ro) ∧ w.cell? ⟨g, 8, none⟩ = some (.int .i64 i.kind) ∧ w.cell? ⟨g, 9, none⟩ = some (.int .i64 r.mo) ∧ w.cell? ⟨g, 10, none⟩ = some (.int .i64 i.uid) ∧ w.cell? ⟨g, 11, none⟩ = some (.int .i64 i.gid) ∧ w.cell? ⟨g, 12, none⟩ = some (.int .i64 r.pe) :=
  ⟨h.cell 0, h.cell 1, h.cell 2, h.cell 3, h.cell 4, h.cell 5, h.cell 6, h.cell 7, h.cell 8, h.cell 9, h.cell 10, h.cell 11, h.cell 12⟩
attribute [local irreducible] ctxC itemC textB valF cmpF checkF
set_option maxHeartbeats 2000000 in
theorem rsoundF (fd op nu : Int) (tx : ByteArray) (ot : Int) (hx : tx.size ≤ maxLen) (w : World) : Calls Tryd.prog 56 #[testV fd op nu tx ot] w fun e w' => e = .returned (.bool (soundB fd op nu tx ot)) ∧ Below w.heap.size w w' := by
  obtain ⟨hT, hB⟩ := boxT w fd op nu tx ot
  have HK := Lib.hid (fun l W => rcheckF fd op nu tx ot l hx W)
  have HT := Lib.hid hT
  have HB := Lib.hid hB
  clear hT hB
  go_enter Tryd.func56, Tryd.ntmps56
  go_wp2_with fail
  generalize w.alloc (.cells (testC fd op nu tx ot) 23) = W at *
  go_loopw [3] (fun i wr => ∃ k : Nat, k ≤ 5 ∧ i = .int .i64 ((k : Int) + 1) ∧ Hid (anyK fd op nu tx ot k = false) ∧ Below W.heap.size W wr) (fun i _ => 7 - (intOf i).toNat)
  case atStart => exact ⟨0, by omega, rfl, by unfold anyK; rfl, Below.refl _ _⟩
  case round =>
    obtain ⟨k, hk, rfl, hno, hb⟩ := hrel
    have HBR := Lib.hid hb
    by_cases hlt : k < 5
    · have HA := Lib.hid (anyK_succ fd op nu tx ot k)
      obtain ⟨q0, q1, q2, q3, q4⟩ := test_cells (HT.out.below hb)
      clear hb
      go_wp2_with fail
      refine (HK.out _ _).mono ?_
      rintro e w1 ⟨rfl, hb1⟩
      have HB1 := Lib.hid (below_then HBR.out hb1)
      clear hb1 q0 q1 q2 q3 q4
      by_cases hc : checkF fd op nu tx ot ((k : Int) + 1) = 0
      · have HS := Lib.hid (show soundB fd op nu tx ot = true by
          rw [← anyK_five]; unfold anyK; rw [List.any_eq_true]
          exact ⟨k, by simpa using hlt, by simpa using hc⟩)
        rw [hc]
        clear hc
        go_wp2_with fail
        go_ret
        exact ⟨ret_b HS.out.symm, HB.out.trans (HB1.out.mono HB.out.size)⟩
      · have bc : (checkF fd op nu tx ot ((k : Int) + 1) == 0) = false := by simpa using hc
        have HN := Lib.hid (show anyK fd op nu tx ot (k + 1) = false by rw [HA.out, hno.out, bc]; rfl)
        clear hc
        go_wp2_with fail
        go_roundw
        case rel => exact ⟨k + 1, by omega, by go_num, HN, HB1.out⟩
        case measure => simp [intOf]; omega
    · have hk5 : k = 5 := by omega
      subst hk5
      have HS := Lib.hid (show soundB fd op nu tx ot = false by rw [← anyK_five]; exact hno.out)
      clear hb
      go_wp2_with fail
      go_ret
      exact ⟨ret_b HS.out.symm, HB.out.trans (HBR.out.mono HB.out.size)⟩
attribute [-go_sem] loadVar
attribute [local go_sem] lv3 lv9
set_option maxRecDepth 100000 in
set_option maxHeartbeats 4000000 in
theorem roneF (c : Ctx) (r : CRest) (it : Value) (fd op nu : Int) (tx : ByteArray) (ot : Int) (i : Itm) (ir : IRest) (hf : 1 ≤ fd ∧ fd ≤ 22) (ho : 1 ≤ op ∧ op ≤ 8) (hot : ot = 0 ∨ ((1 ≤ ot ∧ ot ≤ 22) ∧ ot ≠ 13 ∧ ot ≠ 14)) (w : World) :
    Calls Tryd.prog 59 #[testV fd op nu tx ot, ctxV c r it, itemV i ir] w fun e w' => e = .returned (.bool (holdsF c fd op nu tx ot i)) ∧ Below w.heap.size w w' := by
  obtain ⟨hT, hC, hI, hB⟩ := box3 w fd op nu tx ot c r it i ir
  have HT := Lib.hid hT
  have HC := Lib.hid hC
  have HI := Lib.hid hI
  have HB := Lib.hid hB
  have CM := Lib.hid (fun a b W => rcmpF op a b ho W)
  have q0 := hT.c0
  have q1 := hT.c1
  have q2 := hT.c2
  have q3 := hT.c3
  have q4 := hT.c4
  have qc := hC.comm
  have qe := hC.exe
  clear hT hC hI hB ho
  cases ht : textB fd
  · have HE := Lib.hid (holdsF_num (c := c) (op := op) (nu := nu) (tx := tx) (ot := ot) (i := i) ht)
    have HV := Lib.hid (fun W => rtextF fd W)
    obtain ⟨n13, n14⟩ := textB_no ht
    have CF := Lib.hid (fun W => rnumberF c r it i ir fd hf n13 n14 W)
    rw [ht] at HV
    clear hf ht n13 n14 qc qe
    go_enter Tryd.func59, Tryd.ntmps59
    go_wp2_with fail
    generalize ((w.alloc (.cells (testC fd op nu tx ot) 23)).alloc (.cells (ctxC c r it) 35)).alloc (.cells (itemC i ir) 69) = W at *
    refine (HV.out _).mono ?_
    rintro e w1 ⟨rfl, rfl⟩
    by_cases h0 : ot = 0
    · subst h0
      rw [if_pos rfl] at HE
      go_wp2_with fail
      have hlC := ld_ctx (show CtxB W.drew (w.heap.size + 1) c r it from HC.out)
      have hlI := ld_itm (show ItmB W.drew (w.heap.size + 1 + 1) i ir from HI.out)
      go_region_law (first
        | (go_simp; go_at_call 78; refine (CF.out _).mono ?_; rintro e w5 ⟨rfl, hb5⟩; have HB5 := Lib.hid (HB.out.drew.trans (hb5.mono HB.out.drew.size)); have k1 := (show TestB w5 w.heap.size fd op nu tx _ from Blk.below (test_drew' HT.out) hb5).c1; go_simp)
        | (go_simp; go_at_call 79; refine (CM.out _ _ _).mono ?_; rintro e w6 ⟨rfl, rfl⟩; go_simp))
      all_goals
        go_wp2_with fail
        go_ret
        exact ⟨ret_b HE.out.symm, HB5.out⟩
    · obtain ⟨o1, o2, o3⟩ := hot.resolve_left h0
      have CO := Lib.hid (fun W => rnumberF c r it i ir ot o1 o2 o3 W)
      have b0 : (ot != 0) = true := by simpa using h0
      rw [if_neg h0] at HE
      clear hot o1 o2 o3 h0
      go_wp2_with (first | ((with_reducible refine load_blk ?_ 35 (.tmp 4) ?_ HC.out ?_ _ Tryd.underlying35 ?_ ?_ ?_); (iterate 4 rfl); exact ctx_sz _ _ _) | ((with_reducible refine load_blk ?_ 69 (.tmp 5) ?_ HI.out ?_ _ Tryd.underlying69 ?_ ?_ ?_); (iterate 4 rfl); exact item_sz _ _))
      refine (CO.out _).mono ?_
      rintro e w2 ⟨rfl, hb⟩
      have hT2 : TestB w2 w.heap.size fd op nu tx ot := HT.out.below hb
      have HC2 := Lib.hid (show CtxB w2 (w.heap.size + 1) c r it from HC.out.below hb)
      have HI2 := Lib.hid (show ItmB w2 (w.heap.size + 1 + 1) i ir from HI.out.below hb)
      have HB2 := Lib.hid (HB.out.trans (hb.mono HB.out.size))
      clear q0 q1 q2 q3 q4 hb HT HC HI HB
      have HT := Lib.hid hT2
      have HC := HC2
      have HI := HI2
      have HB := HB2
      have q0 := hT2.c0
      have q1 := hT2.c1
      clear hT2 HC2 HI2 HB2
      go_wp2_with fail
      have hlC := ld_ctx (show CtxB w2.drew (w.heap.size + 1) c r it from HC.out)
      have hlI := ld_itm (show ItmB w2.drew (w.heap.size + 1 + 1) i ir from HI.out)
      go_region_law (first
        | (go_simp; go_at_call 78; refine (CF.out _).mono ?_; rintro e w5 ⟨rfl, hb5⟩; have HB5 := Lib.hid (HB.out.drew.trans (hb5.mono HB.out.drew.size)); have k1 := (show TestB w5 w.heap.size fd op nu tx _ from Blk.below (test_drew' HT.out) hb5).c1; go_simp)
        | (go_simp; go_at_call 79; refine (CM.out _ _ _).mono ?_; rintro e w6 ⟨rfl, rfl⟩; go_simp))
      all_goals
        go_wp2_with fail
        go_ret
        exact ⟨ret_b HE.out.symm, HB5.out⟩
  · have HV := Lib.hid (fun W => rtextF fd W)
    rw [ht] at HV
    have HE := Lib.hid (holdsF_text (c := c) (op := op) (nu := nu) (tx := tx) (ot := ot) (i := i) ht)
    have hv := textB_vals ht
    clear hf hot ht CM
    rcases hv with rfl | rfl
    all_goals
      go_enter Tryd.func59, Tryd.ntmps59
      go_wp2_with fail
      refine (HV.out _).mono ?_
      rintro e w1 ⟨rfl, rfl⟩
      go_wp2_with fail
      go_ret
      exact ⟨ret_b (by rw [HE.out, deq]; simp), HB.out⟩
end Go.Proofs.YtnpaoepkpdileaaDoor

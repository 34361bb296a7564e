/- holds of the program; number, has, one of the reference. -/
import Derived.Test.YtnpaoepkpdileaaDoorFieldCtx
namespace Go.Proofs.YtnpaoepkpdileaaDoor
open Go.RowKit
attribute [local irreducible] ctxC itemC textB
theorem box3 (w : World) (fd op nu : Int) (tx : ByteArray) (ot : Int) (c : Ctx) (r : CRest) (it : Value) (i : Itm) (ir : IRest) :
    TestB (((w.alloc (.cells (testC fd op nu tx ot) 23)).alloc (.cells (ctxC c r it) 35)).alloc (.cells (itemC i ir) 69)) w.heap.size fd op nu tx ot ∧
    CtxB (((w.alloc (.cells (testC fd op nu tx ot) 23)).alloc (.cells (ctxC c r it) 35)).alloc (.cells (itemC i ir) 69)) (w.heap.size + 1) c r it ∧
    ItmB (((w.alloc (.cells (testC fd op nu tx ot) 23)).alloc (.cells (ctxC c r it) 35)).alloc (.cells (itemC i ir) 69)) (w.heap.size + 1 + 1) i ir ∧
    Below w.heap.size w (((w.alloc (.cells (testC fd op nu tx ot) 23)).alloc (.cells (ctxC c r it) 35)).alloc (.cells (itemC i ir) 69)) := by
  refine ⟨((Blk.new w _ _).alloc _).alloc _, ?_, ?_, (((Below.refl _ _).alloc (Nat.le_refl _) _).alloc (by simp) _).alloc (by simp; omega) _⟩
  · have := (Blk.new (w.alloc (.cells (testC fd op nu tx ot) 23)) (ctxC c r it) 35).alloc (.cells (itemC i ir) 69)
    simpa using this
  · have := Blk.new ((w.alloc (.cells (testC fd op nu tx ot) 23)).alloc (.cells (ctxC c r it) 35)) (itemC i ir) 69
    simpa using this
theorem holdsP_text {c : Ctx} {fd op nu : Int} {tx : ByteArray} {ot : Int} {i : Itm} (h : textB fd = true) : holdsP c fd op nu tx ot i = (((if fd = 14 then c.comm else c.exe).toList == tx.toList) == decide (op = 1)) := by
  unfold holdsP holdsF; rw [if_neg (by rw [h]; simp), if_pos h]
theorem holdsP_no {c : Ctx} {fd op nu : Int} {tx : ByteArray} {ot : Int} {i : Itm} (h : textB fd = false) (k : hasF c fd = false ∨ (ot ≠ 0 ∧ hasF c ot = false)) : holdsP c fd op nu tx ot i = false := by
  unfold holdsP; rw [if_pos ⟨h, k⟩]
theorem holdsP_num {c : Ctx} {fd op nu : Int} {tx : ByteArray} {ot : Int} {i : Itm} (h : textB fd = false) (h1 : hasF c fd = true) (h2 : ot = 0 ∨ hasF c ot = true) : holdsP c fd op nu tx ot i = cmpF op (numP c i fd) (if ot = 0 then nu else numP c i ot) := by
  unfold holdsP holdsF
  rw [if_neg (by rintro ⟨_, k | k⟩; rw [h1] at k; cases k; rcases h2 with h2 | h2; exact k.1 h2; rw [h2] at k; cases k.2), if_neg (by rw [h]; decide), numP_yes h1]
  by_cases h0 : ot = 0
  · rw [if_pos h0, if_pos h0]
  · rw [if_neg h0, if_neg h0, numP_yes (h2.resolve_left h0)]
theorem deq (a b : Int) : decide (a = b) = (a == b) := by by_cases h : a = b <;> simp [h]
theorem textB_vals {fd : Int} (h : textB fd = true) : fd = 13 ∨ fd = 14 := by unfold textB at h; simpa using h
theorem textB_no {fd : Int} (h : textB fd = false) : fd ≠ 13 ∧ fd ≠ 14 := by unfold textB at h; simpa using h
attribute [local irreducible] hasF numP cmpF
set_option maxRecDepth 100000 in
set_option maxHeartbeats 4000000 in
theorem vholdsF (c : Ctx) (r : CRest) (it : Value) (fd op nu : Int) (tx : ByteArray) (ot : Int) (i : Itm) (ir : IRest) (hf : 1 ≤ fd ∧ fd ≤ 22) (ho : 1 ≤ op ∧ op ≤ 8) (hot : ot = 0 ∨ ((1 ≤ ot ∧ ot ≤ 22) ∧ ot ≠ 13 ∧ ot ≠ 14)) (w : World) :
    Calls Tryd.prog 39 #[testV fd op nu tx ot, ctxV c r it, itemV i ir] w fun e w' => e = .returned (.bool (holdsP c fd op nu tx ot i)) ∧ Below w.heap.size w w' := by
  obtain ⟨hT, hC, hI, hB⟩ := box3 w fd op nu tx ot c r it i ir
  have HT := Lib.hid hT
  have HC := Lib.hid hC
  have HI := Lib.hid hI
  have HB := Lib.hid hB
  have CM := Lib.hid (fun a b W => vcmpF op a b ho W)
  have q0 := hT.c0
  have q1 := hT.c1
  have q2 := hT.c2
  have q3 := hT.c3
  have q4 := hT.c4
  have qc := hC.comm
  have qe := hC.exe
  clear hT hC hI hB ho
  cases ht : textB fd
  · have HTX := Lib.hid ht
    have HV := Lib.hid (fun W => vtextF fd W)
    obtain ⟨n13, n14⟩ := textB_no ht
    have CF := Lib.hid (fun W => vnumberF c r it i ir fd hf n13 n14 W)
    rw [ht] at HV
    clear hf ht n13 n14 qc qe
    go_enter Tryd.func39, Tryd.ntmps39
    go_wp2_with fail
    refine (HV.out _).mono ?_
    rintro e w1 ⟨rfl, rfl⟩
    go_wp2_with (first | ((with_reducible refine load_blk ?_ 35 (.tmp 4) ?_ HC.out ?_ _ Tryd.underlying35 ?_ ?_ ?_); (iterate 4 rfl); exact ctx_sz _ _ _) | ((with_reducible refine load_blk ?_ 69 (.tmp 5) ?_ HI.out ?_ _ Tryd.underlying69 ?_ ?_ ?_); (iterate 4 rfl); exact item_sz _ _))
    refine (CF.out _).mono ?_
    rintro e w1 ⟨rfl, hb⟩
    have hT1 : TestB w1 w.heap.size fd op nu tx ot := HT.out.below hb
    have HC1 := Lib.hid (HC.out.below hb)
    have HI1 := Lib.hid (HI.out.below hb)
    have HB1 := Lib.hid (HB.out.trans (hb.mono HB.out.size))
    clear q0 q1 q2 q3 q4 HT HC HI HB hb
    have q0 := hT1.c0
    have q1 := hT1.c1
    have q2 := hT1.c2
    have q3 := hT1.c3
    have q4 := hT1.c4
    have HT1 := Lib.hid hT1
    clear hT1
    cases h1 : hasF c fd
    · have HE := Lib.hid (holdsP_no (op := op) (nu := nu) (tx := tx) (ot := ot) (i := i) HTX.out (.inl h1))
      clear h1
      go_wp2_with fail
      go_ret
      exact ⟨ret_b HE.out.symm, HB1.out⟩
    · by_cases h0 : ot = 0
      · subst h0
        have HE := Lib.hid (holdsP_num (op := op) (nu := nu) (tx := tx) (ot := 0) (i := i) HTX.out h1 (.inl rfl))
        rw [if_pos rfl] at HE
        clear h1
        go_wp2_with fail
        refine (CM.out _ _ _).mono ?_
        rintro e w2 ⟨rfl, rfl⟩
        go_wp2_with fail
        go_ret
        exact ⟨ret_b HE.out.symm, HB1.out⟩
      · obtain ⟨o1, o2, o3⟩ := hot.resolve_left h0
        have CO := Lib.hid (fun W => vnumberF c r it i ir ot o1 o2 o3 W)
        have b0 : (ot != 0) = true := by simpa using h0
        have H0 := Lib.hid h0
        have H1 := Lib.hid h1
        clear hot o1 o2 o3 h0 h1
        go_wp2_with (first | ((with_reducible refine load_blk ?_ 35 (.tmp 4) ?_ HC1.out ?_ _ Tryd.underlying35 ?_ ?_ ?_); (iterate 4 rfl); exact ctx_sz _ _ _) | ((with_reducible refine load_blk ?_ 69 (.tmp 5) ?_ HI1.out ?_ _ Tryd.underlying69 ?_ ?_ ?_); (iterate 4 rfl); exact item_sz _ _))
        refine (CO.out _).mono ?_
        rintro e w2 ⟨rfl, hb⟩
        have HB2 := Lib.hid (below_then HB1.out hb)
        have k1 := (show TestB w2 w.heap.size fd op nu tx ot from HT1.out.below hb).c1
        cases h2 : hasF c ot
        · have HE := Lib.hid (holdsP_no (op := op) (nu := nu) (tx := tx) (i := i) HTX.out (.inr ⟨H0.out, h2⟩))
          clear h2
          go_wp2_with fail
          go_ret
          exact ⟨ret_b HE.out.symm, HB2.out⟩
        · have HE := Lib.hid (holdsP_num (op := op) (nu := nu) (tx := tx) (i := i) HTX.out H1.out (.inr h2))
          rw [if_neg H0.out] at HE
          clear h2
          go_wp2_with fail
          refine (CM.out _ _ _).mono ?_
          rintro e w3 ⟨rfl, rfl⟩
          go_wp2_with fail
          go_ret
          exact ⟨ret_b HE.out.symm, HB2.out⟩
  · have HV := Lib.hid (fun W => vtextF fd W)
    rw [ht] at HV
    have HE := Lib.hid (holdsP_text (c := c) (op := op) (nu := nu) (tx := tx) (ot := ot) (i := i) ht)
    have hv := textB_vals ht
    clear hf hot ht CM
    rcases hv with rfl | rfl
    all_goals
      go_enter Tryd.func39, Tryd.ntmps39
      go_wp2_with fail
      refine (HV.out _).mono ?_
      rintro e w1 ⟨rfl, rfl⟩
      go_wp2_with fail
      go_ret
      exact ⟨ret_b (by rw [HE.out, deq]; simp), HB.out⟩
end Go.Proofs.YtnpaoepkpdileaaDoor

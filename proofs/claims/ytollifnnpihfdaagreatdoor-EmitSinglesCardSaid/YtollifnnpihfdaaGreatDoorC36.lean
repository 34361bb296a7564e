/- Texts of one proof, laid together. -/
import Derived.Test.YtollifnnpihfdaaGreatDoorC30
import Derived.Test.YtollifnnpihfdaaGreatDoorC32
import Derived.Deep.DeepCutAuto
import Derived.Deep.CutBlock
/- The source of numbers of package kauditmake: Test. -/
namespace Go.Proofs.YtollifnnpihfdaaGreatDoor
open Go.RowKit
abbrev zeroT : Array Value := testC 0 0 0 ⟨#[]⟩ 0
/-- What the making of a test keeps ahead of the test's own block. -/
structure T0 (w wr : World) (base g : Nat) (b : Int) : Prop where
  only : w.grownBy wr (some g)
  src : SrcOk wr base g b
  rb : Blk wr w.heap.size 85 zeroT
  h3 : g < w.heap.size
  h4 : base ≤ w.heap.size
/-- What the making of a test keeps: the source, the test so far, the block of the result. -/
structure T1 (w wr : World) (base g : Nat) (b : Int) (gc : Nat) (fd op nu : Int) (tx : ByteArray) (ot : Int) : Prop where
  t0 : T0 w wr base g b
  cb : Blk wr gc 85 (testC fd op nu tx ot)
  h2 : w.heap.size < gc
section
variable {w wr w' : World} {base g gc : Nat} {b b' : Int} {fd op nu : Int} {tx : ByteArray} {ot : Int}
theorem T0.alloc (h : T0 w wr base g b) (o : Obj) : T0 w (wr.alloc o) base g b := ⟨only_alloc h.only o, h.src.alloc o, h.rb.alloc o, h.h3, h.h4⟩
theorem T0.step (h : T0 w wr base g b) (hs : SrcOk w' base g b') (hg : wr.grownBy w' (some g)) : T0 w w' base g b' := ⟨h.only.trans hg, hs, h.rb.grown hg (fun e => by injection e with e; have := h.h3; omega), h.h3, h.h4⟩
theorem T0.more (h : T0 w wr base g b) (hb : b ≤ b') : T0 w wr base g b' := ⟨h.only, h.src.more hb, h.rb, h.h3, h.h4⟩
theorem T1.alloc (h : T1 w wr base g b gc fd op nu tx ot) (o : Obj) : T1 w (wr.alloc o) base g b gc fd op nu tx ot := ⟨h.t0.alloc o, h.cb.alloc o, h.h2⟩
theorem T1.step (h : T1 w wr base g b gc fd op nu tx ot) (hs : SrcOk w' base g b') (hg : wr.grownBy w' (some g)) : T1 w w' base g b' gc fd op nu tx ot := ⟨h.t0.step hs hg, h.cb.grown hg (fun e => by injection e with e; have := h.h2; have := h.t0.h3; omega), h.h2⟩
theorem T1.more (h : T1 w wr base g b gc fd op nu tx ot) (hb : b ≤ b') : T1 w wr base g b' gc fd op nu tx ot := ⟨h.t0.more hb, h.cb, h.h2⟩
theorem T0.setCell (h : T0 w wr base g b) {p : Addr} (hp : w.heap.size < p.block) (v : Value) : T0 w (wr.setCell p v) base g b :=
  ⟨only_setCell h.only (.inr (by omega)) v, h.src.setCell (by have := h.h4; omega) (by have := h.h3; omega) v, h.rb.put_other v (by omega), h.h3, h.h4⟩
theorem T1.set0 (h : T1 w wr base g b gc fd op nu tx ot) (x : Int) : T1 w (wr.setCell ⟨gc, 0, none⟩ (.int .i64 x)) base g b gc x op nu tx ot := ⟨h.t0.setCell h.h2 _, h.cb.put 0 (.int .i64 x), h.h2⟩
theorem T1.set1 (h : T1 w wr base g b gc fd op nu tx ot) (x : Int) : T1 w (wr.setCell ⟨gc, 1, none⟩ (.int .i64 x)) base g b gc fd x nu tx ot := ⟨h.t0.setCell h.h2 _, h.cb.put 1 (.int .i64 x), h.h2⟩
theorem T1.set2 (h : T1 w wr base g b gc fd op nu tx ot) (x : Int) : T1 w (wr.setCell ⟨gc, 2, none⟩ (.int .i64 x)) base g b gc fd op x tx ot := ⟨h.t0.setCell h.h2 _, h.cb.put 2 (.int .i64 x), h.h2⟩
theorem T1.set3 (h : T1 w wr base g b gc fd op nu tx ot) (x : ByteArray) : T1 w (wr.setCell ⟨gc, 3, none⟩ (.string x)) base g b gc fd op nu x ot := ⟨h.t0.setCell h.h2 _, h.cb.put 3 (.string x), h.h2⟩
theorem T1.set4 (h : T1 w wr base g b gc fd op nu tx ot) (x : Int) : T1 w (wr.setCell ⟨gc, 4, none⟩ (.int .i64 x)) base g b gc fd op nu tx x := ⟨h.t0.setCell h.h2 _, h.cb.put 4 (.int .i64 x), h.h2⟩
theorem T1.lt (h : T1 w wr base g b gc fd op nu tx ot) : g < wr.heap.size := src_lt h.t0.src
end
/-- What Test makes. -/
def TestPost (w : World) (base g : Nat) (b : Int) (e : Ending) (w' : World) : Prop := ∃ (fd op nu : Int) (tx : ByteArray) (ot : Int), e = .returned (testV fd op nu tx ot) ∧ (-13 ≤ nu ∧ nu ≤ 4294967295) ∧ tx.size ≤ 5 ∧ SrcOk w' base g b ∧ w.grownBy w' (some g)
theorem test_ret {f : FuncId} {fn : Func} (_hf : Tryz.prog.funcs[f]? = some fn) (h : fn.results = #[.cell 4 85]) (tmps : Array Value) (w : World) (g : Nat) (cs : Array Value) (hp : tmps.getD 4 undef = .pointer (some ⟨g, 0, none⟩)) (hg : Blk w g 85 cs) (h5 : cs.size = 5) :
    (results fn tmps).run Tryz.prog w = .ok (.agg cs) w :=
  results_cell_row h tmps w g _ cs (0, 0) _ hp hg Tryz.underlying85 rfl (by rw [h5]; exact test_sz 0 0 0 ⟨#[]⟩ 0)
theorem test_end {w wr : World} {base g gc : Nat} {b b' : Int} {fd op nu : Int} {tx : ByteArray} {ot : Int} (h : T1 w wr base g b' gc fd op nu tx ot) (hn : (-13 ≤ nu ∧ nu ≤ 4294967295) ∧ b' ≤ b) (ht : tx.size ≤ 5) :
    TestPost w base g b (.returned (testV fd op nu tx ot)) (((((wr.setCell ⟨w.heap.size, 0, none⟩ (.int .i64 fd)).setCell ⟨w.heap.size, 1, none⟩ (.int .i64 op)).setCell ⟨w.heap.size, 2, none⟩ (.int .i64 nu)).setCell ⟨w.heap.size, 3, none⟩ (.string tx)).setCell ⟨w.heap.size, 4, none⟩ (.int .i64 ot)) := by
  have h3 := h.t0.h3
  have h4 := h.t0.h4
  refine ⟨fd, op, nu, tx, ot, rfl, hn.1, ht, ?_, ?_⟩
  · exact (((((h.t0.src.setCell (p := ⟨w.heap.size, 0, none⟩) h4 (by show w.heap.size ≠ g; omega) _).setCell (p := ⟨w.heap.size, 1, none⟩) h4 (by show w.heap.size ≠ g; omega) _).setCell (p := ⟨w.heap.size, 2, none⟩) h4 (by show w.heap.size ≠ g; omega) _).setCell (p := ⟨w.heap.size, 3, none⟩) h4 (by show w.heap.size ≠ g; omega) _).setCell (p := ⟨w.heap.size, 4, none⟩) h4 (by show w.heap.size ≠ g; omega) _).more hn.2
  · exact only_setCell (only_setCell (only_setCell (only_setCell (only_setCell h.t0.only (p := ⟨w.heap.size, 0, none⟩) (.inr (Nat.le_refl _)) _) (p := ⟨w.heap.size, 1, none⟩) (.inr (Nat.le_refl _)) _) (p := ⟨w.heap.size, 2, none⟩) (.inr (Nat.le_refl _)) _) (p := ⟨w.heap.size, 3, none⟩) (.inr (Nat.le_refl _)) _) (p := ⟨w.heap.size, 4, none⟩) (.inr (Nat.le_refl _)) _
set_option maxRecDepth 100000 in
set_option maxHeartbeats 16000000 in
theorem src_test (w : World) (base g : Nat) (b l : Int) (h : SrcOk w base g b) (hb : b ≤ 1000000000000) :
    Calls Tryz.prog 75 #[.pointer (some ⟨g, 0, none⟩), .int .i64 l] w (TestPost w base g (b + 20)) := by
  have HB := Lib.hid hb
  have hlt0 : g < w.heap.size := src_lt h
  have hbase : base ≤ w.heap.size := by have := h.1; omega
  have st0 : T0 w (w.alloc (.cells zeroT 85)) base g b := ⟨only_alloc (World.grownBy.refl w (some g)) _, h.alloc _, Blk.new w _ _, hlt0, hbase⟩
  clear h hb
  go_enter Tryz.func75, Tryz.ntmps75
  go_wp2_with fail
  refine (src_range _ base g b 1 8 st0.src (by have := HB.out; omega) (by omega) (by omega) (by omega)).mono ?_
  rintro e w1 ⟨f, rfl, f0, f1, hs, hg⟩
  have st1 := st0.step hs hg
  clear hs hg st0
  go_wp2_with fail
  refine (src_range _ base g (b + 1) 1 8 st1.src (by have := HB.out; omega) (by omega) (by omega) (by omega)).mono ?_
  rintro e w2 ⟨o, rfl, o0, o1, hs, hg⟩
  have st2 := st1.step hs hg
  clear hs hg st1
  go_wp2_with fail
  refine (src_pick _ base g w2.heap.size (b + 1 + 1) 9 (-1) 4294967295 _ 3 (0, 0) (st2.src.alloc _) (by have := HB.out; omega) (heap_alloc_new w2 _) (by have := src_lt st2.src; omega) rfl (by omega) (by omega) rfl).mono ?_
  rintro e w3 ⟨m, rfl, m0, m1, hs, hg⟩
  have st3 := (st2.alloc (.cells #[.int .i64 0, .int .i64 0, .int .i64 1, .int .i64 2, .int .i64 5, .int .i64 7, .int .i64 1000, .int .i64 4294967295, .int .i64 (-1)] 3)).step hs hg
  have hw3 : w.heap.size < w3.heap.size := st3.rb.lt
  clear hs hg st2
  have st4 : T1 w (w3.alloc (.cells (testC f o m ⟨#[]⟩ 0) 85)) base g (b + 1 + 1 + 1) w3.heap.size f o m ⟨#[]⟩ 0 := ⟨st3.alloc _, Blk.new w3 _ _, hw3⟩
  go_wp2_with fail
  generalize w3.heap.size = gc at *
  refine (src_n _ base g (b + 1 + 1 + 1) 8 st4.t0.src (by have := HB.out; omega) (by omega) (by omega)).mono ?_
  rintro e w5 ⟨k, rfl, k0, k1, hs, hg⟩
  have st5 := st4.step hs hg
  clear hs hg st4 st3
  have hcs : k = 0 ∨ k = 1 ∨ (k = 2 ∧ l = 3) ∨ (2 < k ∧ k < 5 ∧ l = 3) ∨ (1 < k ∧ k < 5 ∧ l = 2) ∨ (1 < k ∧ k < 6 ∧ l = 5) ∨ (1 < k ∧ ¬ (k < 5 ∧ l = 3) ∧ ¬ (k < 5 ∧ l = 2) ∧ ¬ (k < 6 ∧ l = 5)) := by omega
  rcases hcs with rfl | rfl | ⟨rfl, rfl⟩ | ⟨c1, c2, rfl⟩ | ⟨c1, c2, rfl⟩ | ⟨c1, c2, rfl⟩ | ⟨c1, c2, c3, c4⟩
  · go_wp2_with fail
    refine (src_range _ base g (b + 1 + 1 + 1 + 1) 13 14 st5.t0.src (by have := HB.out; omega) (by omega) (by omega) (by omega)).mono ?_
    rintro e w6 ⟨v6, rfl, v6a, v6b, hs, hg⟩
    have st6 := st5.step hs hg
    clear hs hg st5
    go_wp2_with fail
    refine (src_range _ base g (b + 1 + 1 + 1 + 1 + 1) 1 2 st6.t0.src (by have := HB.out; omega) (by omega) (by omega) (by omega)).mono ?_
    rintro e w7 ⟨v7, rfl, v7a, v7b, hs, hg⟩
    have st7 := st6.step hs hg
    clear hs hg st6
    go_wp2_with fail
    refine (src_word _ base g w7.heap.size (b + 1 + 1 + 1 + 1 + 1 + 1) 5 5 _ 9 (0, 0) (st7.t0.src.alloc _) (by have := HB.out; omega) (heap_alloc_new w7 _) (by have := st7.lt; omega) rfl (by omega) (by omega) rfl).mono ?_
    rintro e w8 ⟨v8, rfl, v8m, hs, hg⟩
    have st8 := (st7.alloc (.cells #[.string ⟨#[47, 97]⟩, .string ⟨#[47, 105, 110, 105, 116]⟩, .string ⟨#[97]⟩, .string ⟨#[105, 110, 105, 116]⟩, .string ⟨#[120, 32, 121]⟩] 9)).step hs hg
    clear hs hg st7
    have q0 := st8.cb.cell 0
    have f0 := st8.cb.free 0
    have q1 := st8.cb.cell 1
    have f1 := st8.cb.free 1
    have q2 := st8.cb.cell 2
    have f2 := st8.cb.free 2
    have q3 := st8.cb.cell 3
    have f3 := st8.cb.free 3
    have q4 := st8.cb.cell 4
    have f4 := st8.cb.free 4
    have stB := ((((st8.set0 v6).set1 v7).set2 0).set3 v8).set4 0
    go_wp2_with fail
    clear q0 f0 q1 f1 q2 f2 q3 f3 q4 f4
    clear st8
    refine (src_n _ base g (b + 1 + 1 + 1 + 1 + 1 + 1 + 1) 24 stB.t0.src (by have := HB.out; omega) (by omega) (by omega)).mono ?_
    rintro e w9 ⟨v9, rfl, v9a, v9b, hs, hg⟩
    have st9 := stB.step hs hg
    clear hs hg stB
    by_cases h23 : v9 = 23
    · have b23 : (v9 == 23) = true := by simpa using h23
      clear h23
      go_wp2_with fail
      refine (src_range _ base g (b + 1 + 1 + 1 + 1 + 1 + 1 + 1 + 1) 0 24 st9.t0.src (by have := HB.out; omega) (by omega) (by omega) (by omega)).mono ?_
      rintro e w10 ⟨v10, rfl, v10a, v10b, hs, hg⟩
      have st10 := st9.step hs hg
      clear hs hg st9
      go_wp2_with fail
      refine (src_range _ base g (b + 1 + 1 + 1 + 1 + 1 + 1 + 1 + 1 + 1) 0 9 st10.t0.src (by have := HB.out; omega) (by omega) (by omega) (by omega)).mono ?_
      rintro e w11 ⟨v11, rfl, v11a, v11b, hs, hg⟩
      have st11 := st10.step hs hg
      clear hs hg st10
      have q0 := st11.cb.cell 0
      have f0 := st11.cb.free 0
      have q1 := st11.cb.cell 1
      have f1 := st11.cb.free 1
      have q2 := st11.cb.cell 2
      have f2 := st11.cb.free 2
      have q3 := st11.cb.cell 3
      have f3 := st11.cb.free 3
      have q4 := st11.cb.cell 4
      have f4 := st11.cb.free 4
      have stE := (st11.set0 v10).set1 v11
      have r0 := stE.t0.rb.cell 0
      have fr0 := stE.t0.rb.free 0
      have c0 := stE.cb.cell 0
      have r1 := stE.t0.rb.cell 1
      have fr1 := stE.t0.rb.free 1
      have c1 := stE.cb.cell 1
      have r2 := stE.t0.rb.cell 2
      have fr2 := stE.t0.rb.free 2
      have c2 := stE.cb.cell 2
      have r3 := stE.t0.rb.cell 3
      have fr3 := stE.t0.rb.free 3
      have c3 := stE.cb.cell 3
      have r4 := stE.t0.rb.cell 4
      have fr4 := stE.t0.rb.free 4
      have c4 := stE.cb.cell 4
      go_wp2_with fail
      refine bodyPost_ret (test_ret Tryz.func75 rfl _ _ w.heap.size _ rfl (((((stE.t0.rb.put 0 _).put 1 _).put 2 _).put 3 _).put 4 _) rfl) rfl ?_
      exact test_end stE (by omega) (by omega)
    · have b23 : (v9 == 23) = false := by simpa using h23
      clear h23
      have q0 := st9.cb.cell 0
      have f0 := st9.cb.free 0
      have q1 := st9.cb.cell 1
      have f1 := st9.cb.free 1
      have q2 := st9.cb.cell 2
      have f2 := st9.cb.free 2
      have q3 := st9.cb.cell 3
      have f3 := st9.cb.free 3
      have q4 := st9.cb.cell 4
      have f4 := st9.cb.free 4
      have stE := st9
      have r0 := stE.t0.rb.cell 0
      have fr0 := stE.t0.rb.free 0
      have c0 := stE.cb.cell 0
      have r1 := stE.t0.rb.cell 1
      have fr1 := stE.t0.rb.free 1
      have c1 := stE.cb.cell 1
      have r2 := stE.t0.rb.cell 2
      have fr2 := stE.t0.rb.free 2
      have c2 := stE.cb.cell 2
      have r3 := stE.t0.rb.cell 3
      have fr3 := stE.t0.rb.free 3
      have c3 := stE.cb.cell 3
      have r4 := stE.t0.rb.cell 4
      have fr4 := stE.t0.rb.free 4
      have c4 := stE.cb.cell 4
      go_wp2_with fail
      refine bodyPost_ret (test_ret Tryz.func75 rfl _ _ w.heap.size _ rfl (((((stE.t0.rb.put 0 _).put 1 _).put 2 _).put 3 _).put 4 _) rfl) rfl ?_
      exact test_end stE (by omega) (by omega)
  · go_wp2_with fail
    refine (src_range _ base g (b + 1 + 1 + 1 + 1) 3 7 st5.t0.src (by have := HB.out; omega) (by omega) (by omega) (by omega)).mono ?_
    rintro e w12 ⟨v12, rfl, v12a, v12b, hs, hg⟩
    have st12 := st5.step hs hg
    clear hs hg st5
    go_wp2_with fail
    refine (src_range _ base g (b + 1 + 1 + 1 + 1 + 1) 1 2 st12.t0.src (by have := HB.out; omega) (by omega) (by omega) (by omega)).mono ?_
    rintro e w13 ⟨v13, rfl, v13a, v13b, hs, hg⟩
    have st13 := st12.step hs hg
    clear hs hg st12
    go_wp2_with fail
    refine (src_range _ base g (b + 1 + 1 + 1 + 1 + 1 + 1) 3 7 st13.t0.src (by have := HB.out; omega) (by omega) (by omega) (by omega)).mono ?_
    rintro e w14 ⟨v14, rfl, v14a, v14b, hs, hg⟩
    have st14 := st13.step hs hg
    clear hs hg st13
    have q0 := st14.cb.cell 0
    have f0 := st14.cb.free 0
    have q1 := st14.cb.cell 1
    have f1 := st14.cb.free 1
    have q2 := st14.cb.cell 2
    have f2 := st14.cb.free 2
    have q3 := st14.cb.cell 3
    have f3 := st14.cb.free 3
    have q4 := st14.cb.cell 4
    have f4 := st14.cb.free 4
    have stB := ((((st14.set0 v12).set1 v13).set2 0).set3 ⟨#[]⟩).set4 v14
    go_wp2_with fail
    clear q0 f0 q1 f1 q2 f2 q3 f3 q4 f4
    clear st14
    refine (src_n _ base g (b + 1 + 1 + 1 + 1 + 1 + 1 + 1) 24 stB.t0.src (by have := HB.out; omega) (by omega) (by omega)).mono ?_
    rintro e w15 ⟨v15, rfl, v15a, v15b, hs, hg⟩
    have st15 := stB.step hs hg
    clear hs hg stB
    by_cases h23 : v15 = 23
    · have b23 : (v15 == 23) = true := by simpa using h23
      clear h23
      go_wp2_with fail
      refine (src_range _ base g (b + 1 + 1 + 1 + 1 + 1 + 1 + 1 + 1) 0 24 st15.t0.src (by have := HB.out; omega) (by omega) (by omega) (by omega)).mono ?_
      rintro e w16 ⟨v16, rfl, v16a, v16b, hs, hg⟩
      have st16 := st15.step hs hg
      clear hs hg st15
      go_wp2_with fail
      refine (src_range _ base g (b + 1 + 1 + 1 + 1 + 1 + 1 + 1 + 1 + 1) 0 9 st16.t0.src (by have := HB.out; omega) (by omega) (by omega) (by omega)).mono ?_
      rintro e w17 ⟨v17, rfl, v17a, v17b, hs, hg⟩
      have st17 := st16.step hs hg
      clear hs hg st16
      have q0 := st17.cb.cell 0
      have f0 := st17.cb.free 0
      have q1 := st17.cb.cell 1
      have f1 := st17.cb.free 1
      have q2 := st17.cb.cell 2
      have f2 := st17.cb.free 2
      have q3 := st17.cb.cell 3
      have f3 := st17.cb.free 3
      have q4 := st17.cb.cell 4
      have f4 := st17.cb.free 4
      have stE := (st17.set0 v16).set1 v17
      have r0 := stE.t0.rb.cell 0
      have fr0 := stE.t0.rb.free 0
      have c0 := stE.cb.cell 0
      have r1 := stE.t0.rb.cell 1
      have fr1 := stE.t0.rb.free 1
      have c1 := stE.cb.cell 1
      have r2 := stE.t0.rb.cell 2
      have fr2 := stE.t0.rb.free 2
      have c2 := stE.cb.cell 2
      have r3 := stE.t0.rb.cell 3
      have fr3 := stE.t0.rb.free 3
      have c3 := stE.cb.cell 3
      have r4 := stE.t0.rb.cell 4
      have fr4 := stE.t0.rb.free 4
      have c4 := stE.cb.cell 4
      go_wp2_with fail
      refine bodyPost_ret (test_ret Tryz.func75 rfl _ _ w.heap.size _ rfl (((((stE.t0.rb.put 0 _).put 1 _).put 2 _).put 3 _).put 4 _) rfl) rfl ?_
      exact test_end stE (by omega) (by decide)
    · have b23 : (v15 == 23) = false := by simpa using h23
      clear h23
      have q0 := st15.cb.cell 0
      have f0 := st15.cb.free 0
      have q1 := st15.cb.cell 1
      have f1 := st15.cb.free 1
      have q2 := st15.cb.cell 2
      have f2 := st15.cb.free 2
      have q3 := st15.cb.cell 3
      have f3 := st15.cb.free 3
      have q4 := st15.cb.cell 4
      have f4 := st15.cb.free 4
      have stE := st15
      have r0 := stE.t0.rb.cell 0
      have fr0 := stE.t0.rb.free 0
      have c0 := stE.cb.cell 0
      have r1 := stE.t0.rb.cell 1
      have fr1 := stE.t0.rb.free 1
      have c1 := stE.cb.cell 1
      have r2 := stE.t0.rb.cell 2
      have fr2 := stE.t0.rb.free 2
      have c2 := stE.cb.cell 2
      have r3 := stE.t0.rb.cell 3
      have fr3 := stE.t0.rb.free 3
      have c3 := stE.cb.cell 3
      have r4 := stE.t0.rb.cell 4
      have fr4 := stE.t0.rb.free 4
      have c4 := stE.cb.cell 4
      go_wp2_with fail
      refine bodyPost_ret (test_ret Tryz.func75 rfl _ _ w.heap.size _ rfl (((((stE.t0.rb.put 0 _).put 1 _).put 2 _).put 3 _).put 4 _) rfl) rfl ?_
      exact test_end stE (by omega) (by decide)
  · go_wp2_with fail
    refine (src_range _ base g (b + 1 + 1 + 1 + 1) 19 20 st5.t0.src (by have := HB.out; omega) (by omega) (by omega) (by omega)).mono ?_
    rintro e w18 ⟨v18, rfl, v18a, v18b, hs, hg⟩
    have st18 := st5.step hs hg
    clear hs hg st5
    go_wp2_with fail
    refine (src_range _ base g (b + 1 + 1 + 1 + 1 + 1) 1 2 st18.t0.src (by have := HB.out; omega) (by omega) (by omega) (by omega)).mono ?_
    rintro e w19 ⟨v19, rfl, v19a, v19b, hs, hg⟩
    have st19 := st18.step hs hg
    clear hs hg st18
    go_wp2_with fail
    refine (src_pick _ base g w19.heap.size (b + 1 + 1 + 1 + 1 + 1 + 1) 5 (3) 20 _ 3 (0, 0) (st19.t0.src.alloc _) (by have := HB.out; omega) (heap_alloc_new w19 _) (by have := st19.lt; omega) rfl (by omega) (by omega) rfl).mono ?_
    rintro e w20 ⟨v20, rfl, v20a, v20b, hs, hg⟩
    have st20 := (st19.alloc (.cells #[.int .i64 3, .int .i64 4, .int .i64 5, .int .i64 19, .int .i64 20] 3)).step hs hg
    clear hs hg st19
    have q0 := st20.cb.cell 0
    have f0 := st20.cb.free 0
    have q1 := st20.cb.cell 1
    have f1 := st20.cb.free 1
    have q2 := st20.cb.cell 2
    have f2 := st20.cb.free 2
    have q3 := st20.cb.cell 3
    have f3 := st20.cb.free 3
    have q4 := st20.cb.cell 4
    have f4 := st20.cb.free 4
    have stB := ((((st20.set0 v18).set1 v19).set2 0).set3 ⟨#[]⟩).set4 v20
    go_wp2_with fail
    clear q0 f0 q1 f1 q2 f2 q3 f3 q4 f4
    clear st20
    refine (src_n _ base g (b + 1 + 1 + 1 + 1 + 1 + 1 + 1) 24 stB.t0.src (by have := HB.out; omega) (by omega) (by omega)).mono ?_
    rintro e w21 ⟨v21, rfl, v21a, v21b, hs, hg⟩
    have st21 := stB.step hs hg
    clear hs hg stB
    by_cases h23 : v21 = 23
    · have b23 : (v21 == 23) = true := by simpa using h23
      clear h23
      go_wp2_with fail
      refine (src_range _ base g (b + 1 + 1 + 1 + 1 + 1 + 1 + 1 + 1) 0 24 st21.t0.src (by have := HB.out; omega) (by omega) (by omega) (by omega)).mono ?_
      rintro e w22 ⟨v22, rfl, v22a, v22b, hs, hg⟩
      have st22 := st21.step hs hg
      clear hs hg st21
      go_wp2_with fail
      refine (src_range _ base g (b + 1 + 1 + 1 + 1 + 1 + 1 + 1 + 1 + 1) 0 9 st22.t0.src (by have := HB.out; omega) (by omega) (by omega) (by omega)).mono ?_
      rintro e w23 ⟨v23, rfl, v23a, v23b, hs, hg⟩
      have st23 := st22.step hs hg
      clear hs hg st22
      have q0 := st23.cb.cell 0
      have f0 := st23.cb.free 0
      have q1 := st23.cb.cell 1
      have f1 := st23.cb.free 1
      have q2 := st23.cb.cell 2
      have f2 := st23.cb.free 2
      have q3 := st23.cb.cell 3
      have f3 := st23.cb.free 3
      have q4 := st23.cb.cell 4
      have f4 := st23.cb.free 4
      have stE := (st23.set0 v22).set1 v23
      have r0 := stE.t0.rb.cell 0
      have fr0 := stE.t0.rb.free 0
      have c0 := stE.cb.cell 0
      have r1 := stE.t0.rb.cell 1
      have fr1 := stE.t0.rb.free 1
      have c1 := stE.cb.cell 1
      have r2 := stE.t0.rb.cell 2
      have fr2 := stE.t0.rb.free 2
      have c2 := stE.cb.cell 2
      have r3 := stE.t0.rb.cell 3
      have fr3 := stE.t0.rb.free 3
      have c3 := stE.cb.cell 3
      have r4 := stE.t0.rb.cell 4
      have fr4 := stE.t0.rb.free 4
      have c4 := stE.cb.cell 4
      go_wp2_with fail
      refine bodyPost_ret (test_ret Tryz.func75 rfl _ _ w.heap.size _ rfl (((((stE.t0.rb.put 0 _).put 1 _).put 2 _).put 3 _).put 4 _) rfl) rfl ?_
      exact test_end stE (by omega) (by decide)
    · have b23 : (v21 == 23) = false := by simpa using h23
      clear h23
      have q0 := st21.cb.cell 0
      have f0 := st21.cb.free 0
      have q1 := st21.cb.cell 1
      have f1 := st21.cb.free 1
      have q2 := st21.cb.cell 2
      have f2 := st21.cb.free 2
      have q3 := st21.cb.cell 3
      have f3 := st21.cb.free 3
      have q4 := st21.cb.cell 4
      have f4 := st21.cb.free 4
      have stE := st21
      have r0 := stE.t0.rb.cell 0
      have fr0 := stE.t0.rb.free 0
      have c0 := stE.cb.cell 0
      have r1 := stE.t0.rb.cell 1
      have fr1 := stE.t0.rb.free 1
      have c1 := stE.cb.cell 1
      have r2 := stE.t0.rb.cell 2
      have fr2 := stE.t0.rb.free 2
      have c2 := stE.cb.cell 2
      have r3 := stE.t0.rb.cell 3
      have fr3 := stE.t0.rb.free 3
      have c3 := stE.cb.cell 3
      have r4 := stE.t0.rb.cell 4
      have fr4 := stE.t0.rb.free 4
      have c4 := stE.cb.cell 4
      go_wp2_with fail
      refine bodyPost_ret (test_ret Tryz.func75 rfl _ _ w.heap.size _ rfl (((((stE.t0.rb.put 0 _).put 1 _).put 2 _).put 3 _).put 4 _) rfl) rfl ?_
      exact test_end stE (by omega) (by decide)
  · have n0 : (k == 0) = false := by simp; omega
    have n1 : (k == 1) = false := by simp; omega
    have n2 : (k == 2) = false := by simp; omega
    go_wp2_with fail
    refine (src_range _ base g (b + 1 + 1 + 1 + 1) 15 21 st5.t0.src (by have := HB.out; omega) (by omega) (by omega) (by omega)).mono ?_
    rintro e w24 ⟨v24, rfl, v24a, v24b, hs, hg⟩
    have st24 := st5.step hs hg
    clear hs hg st5
    go_wp2_with fail
    refine (src_pick _ base g w24.heap.size (b + 1 + 1 + 1 + 1 + 1) 8 (-13) 5 _ 3 (0, 0) (st24.t0.src.alloc _) (by have := HB.out; omega) (heap_alloc_new w24 _) (by have := st24.lt; omega) rfl (by omega) (by omega) rfl).mono ?_
    rintro e w25 ⟨v25, rfl, v25a, v25b, hs, hg⟩
    have st25 := (st24.alloc (.cells #[.int .i64 0, .int .i64 0, .int .i64 1, .int .i64 1, .int .i64 2, .int .i64 5, .int .i64 (-2), .int .i64 (-13)] 3)).step hs hg
    clear hs hg st24
    have q0 := st25.cb.cell 0
    have f0 := st25.cb.free 0
    have q1 := st25.cb.cell 1
    have f1 := st25.cb.free 1
    have q2 := st25.cb.cell 2
    have f2 := st25.cb.free 2
    have q3 := st25.cb.cell 3
    have f3 := st25.cb.free 3
    have q4 := st25.cb.cell 4
    have f4 := st25.cb.free 4
    have stB := (st25.set0 v24).set2 v25
    go_wp2_with fail
    clear q0 f0 q1 f1 q2 f2 q3 f3 q4 f4
    clear st25
    refine (src_n _ base g (b + 1 + 1 + 1 + 1 + 1 + 1) 24 stB.t0.src (by have := HB.out; omega) (by omega) (by omega)).mono ?_
    rintro e w26 ⟨v26, rfl, v26a, v26b, hs, hg⟩
    have st26 := stB.step hs hg
    clear hs hg stB
    by_cases h23 : v26 = 23
    · have b23 : (v26 == 23) = true := by simpa using h23
      clear h23
      go_wp2_with fail
      refine (src_range _ base g (b + 1 + 1 + 1 + 1 + 1 + 1 + 1) 0 24 st26.t0.src (by have := HB.out; omega) (by omega) (by omega) (by omega)).mono ?_
      rintro e w27 ⟨v27, rfl, v27a, v27b, hs, hg⟩
      have st27 := st26.step hs hg
      clear hs hg st26
      go_wp2_with fail
      refine (src_range _ base g (b + 1 + 1 + 1 + 1 + 1 + 1 + 1 + 1) 0 9 st27.t0.src (by have := HB.out; omega) (by omega) (by omega) (by omega)).mono ?_
      rintro e w28 ⟨v28, rfl, v28a, v28b, hs, hg⟩
      have st28 := st27.step hs hg
      clear hs hg st27
      have q0 := st28.cb.cell 0
      have f0 := st28.cb.free 0
      have q1 := st28.cb.cell 1
      have f1 := st28.cb.free 1
      have q2 := st28.cb.cell 2
      have f2 := st28.cb.free 2
      have q3 := st28.cb.cell 3
      have f3 := st28.cb.free 3
      have q4 := st28.cb.cell 4
      have f4 := st28.cb.free 4
      have stE := (st28.set0 v27).set1 v28
      have r0 := stE.t0.rb.cell 0
      have fr0 := stE.t0.rb.free 0
      have c0 := stE.cb.cell 0
      have r1 := stE.t0.rb.cell 1
      have fr1 := stE.t0.rb.free 1
      have c1 := stE.cb.cell 1
      have r2 := stE.t0.rb.cell 2
      have fr2 := stE.t0.rb.free 2
      have c2 := stE.cb.cell 2
      have r3 := stE.t0.rb.cell 3
      have fr3 := stE.t0.rb.free 3
      have c3 := stE.cb.cell 3
      have r4 := stE.t0.rb.cell 4
      have fr4 := stE.t0.rb.free 4
      have c4 := stE.cb.cell 4
      go_wp2_with fail
      refine bodyPost_ret (test_ret Tryz.func75 rfl _ _ w.heap.size _ rfl (((((stE.t0.rb.put 0 _).put 1 _).put 2 _).put 3 _).put 4 _) rfl) rfl ?_
      exact test_end stE (by omega) (by decide)
    · have b23 : (v26 == 23) = false := by simpa using h23
      clear h23
      have q0 := st26.cb.cell 0
      have f0 := st26.cb.free 0
      have q1 := st26.cb.cell 1
      have f1 := st26.cb.free 1
      have q2 := st26.cb.cell 2
      have f2 := st26.cb.free 2
      have q3 := st26.cb.cell 3
      have f3 := st26.cb.free 3
      have q4 := st26.cb.cell 4
      have f4 := st26.cb.free 4
      have stE := st26
      have r0 := stE.t0.rb.cell 0
      have fr0 := stE.t0.rb.free 0
      have c0 := stE.cb.cell 0
      have r1 := stE.t0.rb.cell 1
      have fr1 := stE.t0.rb.free 1
      have c1 := stE.cb.cell 1
      have r2 := stE.t0.rb.cell 2
      have fr2 := stE.t0.rb.free 2
      have c2 := stE.cb.cell 2
      have r3 := stE.t0.rb.cell 3
      have fr3 := stE.t0.rb.free 3
      have c3 := stE.cb.cell 3
      have r4 := stE.t0.rb.cell 4
      have fr4 := stE.t0.rb.free 4
      have c4 := stE.cb.cell 4
      go_wp2_with fail
      refine bodyPost_ret (test_ret Tryz.func75 rfl _ _ w.heap.size _ rfl (((((stE.t0.rb.put 0 _).put 1 _).put 2 _).put 3 _).put 4 _) rfl) rfl ?_
      exact test_end stE (by omega) (by decide)
  · rcases (show k = 2 ∨ 2 < k by omega) with e1 | e1
    · subst e1
      go_wp2_with fail
      refine (src_range _ base g (b + 1 + 1 + 1 + 1) 9 12 st5.t0.src (by have := HB.out; omega) (by omega) (by omega) (by omega)).mono ?_
      rintro e w29 ⟨v29, rfl, v29a, v29b, hs, hg⟩
      have st29 := st5.step hs hg
      clear hs hg st5
      have q0 := st29.cb.cell 0
      have f0 := st29.cb.free 0
      have q1 := st29.cb.cell 1
      have f1 := st29.cb.free 1
      have q2 := st29.cb.cell 2
      have f2 := st29.cb.free 2
      have q3 := st29.cb.cell 3
      have f3 := st29.cb.free 3
      have q4 := st29.cb.cell 4
      have f4 := st29.cb.free 4
      have stB := st29.set0 v29
      go_wp2_with fail
      clear q0 f0 q1 f1 q2 f2 q3 f3 q4 f4
      clear st29
      refine (src_n _ base g (b + 1 + 1 + 1 + 1 + 1) 24 stB.t0.src (by have := HB.out; omega) (by omega) (by omega)).mono ?_
      rintro e w30 ⟨v30, rfl, v30a, v30b, hs, hg⟩
      have st30 := stB.step hs hg
      clear hs hg stB
      by_cases h23 : v30 = 23
      · have b23 : (v30 == 23) = true := by simpa using h23
        clear h23
        go_wp2_with fail
        refine (src_range _ base g (b + 1 + 1 + 1 + 1 + 1 + 1) 0 24 st30.t0.src (by have := HB.out; omega) (by omega) (by omega) (by omega)).mono ?_
        rintro e w31 ⟨v31, rfl, v31a, v31b, hs, hg⟩
        have st31 := st30.step hs hg
        clear hs hg st30
        go_wp2_with fail
        refine (src_range _ base g (b + 1 + 1 + 1 + 1 + 1 + 1 + 1) 0 9 st31.t0.src (by have := HB.out; omega) (by omega) (by omega) (by omega)).mono ?_
        rintro e w32 ⟨v32, rfl, v32a, v32b, hs, hg⟩
        have st32 := st31.step hs hg
        clear hs hg st31
        have q0 := st32.cb.cell 0
        have f0 := st32.cb.free 0
        have q1 := st32.cb.cell 1
        have f1 := st32.cb.free 1
        have q2 := st32.cb.cell 2
        have f2 := st32.cb.free 2
        have q3 := st32.cb.cell 3
        have f3 := st32.cb.free 3
        have q4 := st32.cb.cell 4
        have f4 := st32.cb.free 4
        have stE := (st32.set0 v31).set1 v32
        have r0 := stE.t0.rb.cell 0
        have fr0 := stE.t0.rb.free 0
        have c0 := stE.cb.cell 0
        have r1 := stE.t0.rb.cell 1
        have fr1 := stE.t0.rb.free 1
        have c1 := stE.cb.cell 1
        have r2 := stE.t0.rb.cell 2
        have fr2 := stE.t0.rb.free 2
        have c2 := stE.cb.cell 2
        have r3 := stE.t0.rb.cell 3
        have fr3 := stE.t0.rb.free 3
        have c3 := stE.cb.cell 3
        have r4 := stE.t0.rb.cell 4
        have fr4 := stE.t0.rb.free 4
        have c4 := stE.cb.cell 4
        go_wp2_with fail
        refine bodyPost_ret (test_ret Tryz.func75 rfl _ _ w.heap.size _ rfl (((((stE.t0.rb.put 0 _).put 1 _).put 2 _).put 3 _).put 4 _) rfl) rfl ?_
        exact test_end stE (by omega) (by decide)
      · have b23 : (v30 == 23) = false := by simpa using h23
        clear h23
        have q0 := st30.cb.cell 0
        have f0 := st30.cb.free 0
        have q1 := st30.cb.cell 1
        have f1 := st30.cb.free 1
        have q2 := st30.cb.cell 2
        have f2 := st30.cb.free 2
        have q3 := st30.cb.cell 3
        have f3 := st30.cb.free 3
        have q4 := st30.cb.cell 4
        have f4 := st30.cb.free 4
        have stE := st30
        have r0 := stE.t0.rb.cell 0
        have fr0 := stE.t0.rb.free 0
        have c0 := stE.cb.cell 0
        have r1 := stE.t0.rb.cell 1
        have fr1 := stE.t0.rb.free 1
        have c1 := stE.cb.cell 1
        have r2 := stE.t0.rb.cell 2
        have fr2 := stE.t0.rb.free 2
        have c2 := stE.cb.cell 2
        have r3 := stE.t0.rb.cell 3
        have fr3 := stE.t0.rb.free 3
        have c3 := stE.cb.cell 3
        have r4 := stE.t0.rb.cell 4
        have fr4 := stE.t0.rb.free 4
        have c4 := stE.cb.cell 4
        go_wp2_with fail
        refine bodyPost_ret (test_ret Tryz.func75 rfl _ _ w.heap.size _ rfl (((((stE.t0.rb.put 0 _).put 1 _).put 2 _).put 3 _).put 4 _) rfl) rfl ?_
        exact test_end stE (by omega) (by decide)
    · have n0 : (k == 0) = false := by simp; omega
      have n1 : (k == 1) = false := by simp; omega
      have n2 : (k == 2) = false := by simp; omega
      go_wp2_with fail
      refine (src_range _ base g (b + 1 + 1 + 1 + 1) 9 12 st5.t0.src (by have := HB.out; omega) (by omega) (by omega) (by omega)).mono ?_
      rintro e w33 ⟨v33, rfl, v33a, v33b, hs, hg⟩
      have st33 := st5.step hs hg
      clear hs hg st5
      have q0 := st33.cb.cell 0
      have f0 := st33.cb.free 0
      have q1 := st33.cb.cell 1
      have f1 := st33.cb.free 1
      have q2 := st33.cb.cell 2
      have f2 := st33.cb.free 2
      have q3 := st33.cb.cell 3
      have f3 := st33.cb.free 3
      have q4 := st33.cb.cell 4
      have f4 := st33.cb.free 4
      have stB := st33.set0 v33
      go_wp2_with fail
      clear q0 f0 q1 f1 q2 f2 q3 f3 q4 f4
      clear st33
      refine (src_n _ base g (b + 1 + 1 + 1 + 1 + 1) 24 stB.t0.src (by have := HB.out; omega) (by omega) (by omega)).mono ?_
      rintro e w34 ⟨v34, rfl, v34a, v34b, hs, hg⟩
      have st34 := stB.step hs hg
      clear hs hg stB
      by_cases h23 : v34 = 23
      · have b23 : (v34 == 23) = true := by simpa using h23
        clear h23
        go_wp2_with fail
        refine (src_range _ base g (b + 1 + 1 + 1 + 1 + 1 + 1) 0 24 st34.t0.src (by have := HB.out; omega) (by omega) (by omega) (by omega)).mono ?_
        rintro e w35 ⟨v35, rfl, v35a, v35b, hs, hg⟩
        have st35 := st34.step hs hg
        clear hs hg st34
        go_wp2_with fail
        refine (src_range _ base g (b + 1 + 1 + 1 + 1 + 1 + 1 + 1) 0 9 st35.t0.src (by have := HB.out; omega) (by omega) (by omega) (by omega)).mono ?_
        rintro e w36 ⟨v36, rfl, v36a, v36b, hs, hg⟩
        have st36 := st35.step hs hg
        clear hs hg st35
        have q0 := st36.cb.cell 0
        have f0 := st36.cb.free 0
        have q1 := st36.cb.cell 1
        have f1 := st36.cb.free 1
        have q2 := st36.cb.cell 2
        have f2 := st36.cb.free 2
        have q3 := st36.cb.cell 3
        have f3 := st36.cb.free 3
        have q4 := st36.cb.cell 4
        have f4 := st36.cb.free 4
        have stE := (st36.set0 v35).set1 v36
        have r0 := stE.t0.rb.cell 0
        have fr0 := stE.t0.rb.free 0
        have c0 := stE.cb.cell 0
        have r1 := stE.t0.rb.cell 1
        have fr1 := stE.t0.rb.free 1
        have c1 := stE.cb.cell 1
        have r2 := stE.t0.rb.cell 2
        have fr2 := stE.t0.rb.free 2
        have c2 := stE.cb.cell 2
        have r3 := stE.t0.rb.cell 3
        have fr3 := stE.t0.rb.free 3
        have c3 := stE.cb.cell 3
        have r4 := stE.t0.rb.cell 4
        have fr4 := stE.t0.rb.free 4
        have c4 := stE.cb.cell 4
        go_wp2_with fail
        refine bodyPost_ret (test_ret Tryz.func75 rfl _ _ w.heap.size _ rfl (((((stE.t0.rb.put 0 _).put 1 _).put 2 _).put 3 _).put 4 _) rfl) rfl ?_
        exact test_end stE (by omega) (by decide)
      · have b23 : (v34 == 23) = false := by simpa using h23
        clear h23
        have q0 := st34.cb.cell 0
        have f0 := st34.cb.free 0
        have q1 := st34.cb.cell 1
        have f1 := st34.cb.free 1
        have q2 := st34.cb.cell 2
        have f2 := st34.cb.free 2
        have q3 := st34.cb.cell 3
        have f3 := st34.cb.free 3
        have q4 := st34.cb.cell 4
        have f4 := st34.cb.free 4
        have stE := st34
        have r0 := stE.t0.rb.cell 0
        have fr0 := stE.t0.rb.free 0
        have c0 := stE.cb.cell 0
        have r1 := stE.t0.rb.cell 1
        have fr1 := stE.t0.rb.free 1
        have c1 := stE.cb.cell 1
        have r2 := stE.t0.rb.cell 2
        have fr2 := stE.t0.rb.free 2
        have c2 := stE.cb.cell 2
        have r3 := stE.t0.rb.cell 3
        have fr3 := stE.t0.rb.free 3
        have c3 := stE.cb.cell 3
        have r4 := stE.t0.rb.cell 4
        have fr4 := stE.t0.rb.free 4
        have c4 := stE.cb.cell 4
        go_wp2_with fail
        refine bodyPost_ret (test_ret Tryz.func75 rfl _ _ w.heap.size _ rfl (((((stE.t0.rb.put 0 _).put 1 _).put 2 _).put 3 _).put 4 _) rfl) rfl ?_
        exact test_end stE (by omega) (by decide)
  · rcases (show k = 2 ∨ (2 < k ∧ k < 5) ∨ k = 5 by omega) with e1 | e1 | e1
    · subst e1
      go_wp2_with fail
      refine (src_range _ base g (b + 1 + 1 + 1 + 1) 1 6 st5.t0.src (by have := HB.out; omega) (by omega) (by omega) (by omega)).mono ?_
      rintro e w37 ⟨v37, rfl, v37a, v37b, hs, hg⟩
      have st37 := st5.step hs hg
      clear hs hg st5
      go_wp2_with fail
      refine (src_pick _ base g w37.heap.size (b + 1 + 1 + 1 + 1 + 1) 7 (1005) 1320 _ 3 (0, 0) (st37.t0.src.alloc _) (by have := HB.out; omega) (heap_alloc_new w37 _) (by have := st37.lt; omega) rfl (by omega) (by omega) rfl).mono ?_
      rintro e w38 ⟨v38, rfl, v38a, v38b, hs, hg⟩
      have st38 := (st37.alloc (.cells #[.int .i64 1300, .int .i64 1302, .int .i64 1307, .int .i64 1309, .int .i64 1005, .int .i64 1320, .int .i64 1306] 3)).step hs hg
      clear hs hg st37
      have q0 := st38.cb.cell 0
      have f0 := st38.cb.free 0
      have q1 := st38.cb.cell 1
      have f1 := st38.cb.free 1
      have q2 := st38.cb.cell 2
      have f2 := st38.cb.free 2
      have q3 := st38.cb.cell 3
      have f3 := st38.cb.free 3
      have q4 := st38.cb.cell 4
      have f4 := st38.cb.free 4
      have stB := ((((st38.set0 22).set1 v37).set2 v38).set3 ⟨#[]⟩).set4 0
      go_wp2_with fail
      clear q0 f0 q1 f1 q2 f2 q3 f3 q4 f4
      clear st38
      refine (src_n _ base g (b + 1 + 1 + 1 + 1 + 1 + 1) 24 stB.t0.src (by have := HB.out; omega) (by omega) (by omega)).mono ?_
      rintro e w39 ⟨v39, rfl, v39a, v39b, hs, hg⟩
      have st39 := stB.step hs hg
      clear hs hg stB
      by_cases h23 : v39 = 23
      · have b23 : (v39 == 23) = true := by simpa using h23
        clear h23
        go_wp2_with fail
        refine (src_range _ base g (b + 1 + 1 + 1 + 1 + 1 + 1 + 1) 0 24 st39.t0.src (by have := HB.out; omega) (by omega) (by omega) (by omega)).mono ?_
        rintro e w40 ⟨v40, rfl, v40a, v40b, hs, hg⟩
        have st40 := st39.step hs hg
        clear hs hg st39
        go_wp2_with fail
        refine (src_range _ base g (b + 1 + 1 + 1 + 1 + 1 + 1 + 1 + 1) 0 9 st40.t0.src (by have := HB.out; omega) (by omega) (by omega) (by omega)).mono ?_
        rintro e w41 ⟨v41, rfl, v41a, v41b, hs, hg⟩
        have st41 := st40.step hs hg
        clear hs hg st40
        have q0 := st41.cb.cell 0
        have f0 := st41.cb.free 0
        have q1 := st41.cb.cell 1
        have f1 := st41.cb.free 1
        have q2 := st41.cb.cell 2
        have f2 := st41.cb.free 2
        have q3 := st41.cb.cell 3
        have f3 := st41.cb.free 3
        have q4 := st41.cb.cell 4
        have f4 := st41.cb.free 4
        have stE := (st41.set0 v40).set1 v41
        have r0 := stE.t0.rb.cell 0
        have fr0 := stE.t0.rb.free 0
        have c0 := stE.cb.cell 0
        have r1 := stE.t0.rb.cell 1
        have fr1 := stE.t0.rb.free 1
        have c1 := stE.cb.cell 1
        have r2 := stE.t0.rb.cell 2
        have fr2 := stE.t0.rb.free 2
        have c2 := stE.cb.cell 2
        have r3 := stE.t0.rb.cell 3
        have fr3 := stE.t0.rb.free 3
        have c3 := stE.cb.cell 3
        have r4 := stE.t0.rb.cell 4
        have fr4 := stE.t0.rb.free 4
        have c4 := stE.cb.cell 4
        go_wp2_with fail
        refine bodyPost_ret (test_ret Tryz.func75 rfl _ _ w.heap.size _ rfl (((((stE.t0.rb.put 0 _).put 1 _).put 2 _).put 3 _).put 4 _) rfl) rfl ?_
        exact test_end stE (by omega) (by decide)
      · have b23 : (v39 == 23) = false := by simpa using h23
        clear h23
        have q0 := st39.cb.cell 0
        have f0 := st39.cb.free 0
        have q1 := st39.cb.cell 1
        have f1 := st39.cb.free 1
        have q2 := st39.cb.cell 2
        have f2 := st39.cb.free 2
        have q3 := st39.cb.cell 3
        have f3 := st39.cb.free 3
        have q4 := st39.cb.cell 4
        have f4 := st39.cb.free 4
        have stE := st39
        have r0 := stE.t0.rb.cell 0
        have fr0 := stE.t0.rb.free 0
        have c0 := stE.cb.cell 0
        have r1 := stE.t0.rb.cell 1
        have fr1 := stE.t0.rb.free 1
        have c1 := stE.cb.cell 1
        have r2 := stE.t0.rb.cell 2
        have fr2 := stE.t0.rb.free 2
        have c2 := stE.cb.cell 2
        have r3 := stE.t0.rb.cell 3
        have fr3 := stE.t0.rb.free 3
        have c3 := stE.cb.cell 3
        have r4 := stE.t0.rb.cell 4
        have fr4 := stE.t0.rb.free 4
        have c4 := stE.cb.cell 4
        go_wp2_with fail
        refine bodyPost_ret (test_ret Tryz.func75 rfl _ _ w.heap.size _ rfl (((((stE.t0.rb.put 0 _).put 1 _).put 2 _).put 3 _).put 4 _) rfl) rfl ?_
        exact test_end stE (by omega) (by decide)
    · obtain ⟨e1, e2⟩ := e1
      have n0 : (k == 0) = false := by simp; omega
      have n1 : (k == 1) = false := by simp; omega
      have n2 : (k == 2) = false := by simp; omega
      go_wp2_with fail
      refine (src_range _ base g (b + 1 + 1 + 1 + 1) 1 6 st5.t0.src (by have := HB.out; omega) (by omega) (by omega) (by omega)).mono ?_
      rintro e w42 ⟨v42, rfl, v42a, v42b, hs, hg⟩
      have st42 := st5.step hs hg
      clear hs hg st5
      go_wp2_with fail
      refine (src_pick _ base g w42.heap.size (b + 1 + 1 + 1 + 1 + 1) 7 (1005) 1320 _ 3 (0, 0) (st42.t0.src.alloc _) (by have := HB.out; omega) (heap_alloc_new w42 _) (by have := st42.lt; omega) rfl (by omega) (by omega) rfl).mono ?_
      rintro e w43 ⟨v43, rfl, v43a, v43b, hs, hg⟩
      have st43 := (st42.alloc (.cells #[.int .i64 1300, .int .i64 1302, .int .i64 1307, .int .i64 1309, .int .i64 1005, .int .i64 1320, .int .i64 1306] 3)).step hs hg
      clear hs hg st42
      have q0 := st43.cb.cell 0
      have f0 := st43.cb.free 0
      have q1 := st43.cb.cell 1
      have f1 := st43.cb.free 1
      have q2 := st43.cb.cell 2
      have f2 := st43.cb.free 2
      have q3 := st43.cb.cell 3
      have f3 := st43.cb.free 3
      have q4 := st43.cb.cell 4
      have f4 := st43.cb.free 4
      have stB := ((((st43.set0 22).set1 v42).set2 v43).set3 ⟨#[]⟩).set4 0
      go_wp2_with fail
      clear q0 f0 q1 f1 q2 f2 q3 f3 q4 f4
      clear st43
      refine (src_n _ base g (b + 1 + 1 + 1 + 1 + 1 + 1) 24 stB.t0.src (by have := HB.out; omega) (by omega) (by omega)).mono ?_
      rintro e w44 ⟨v44, rfl, v44a, v44b, hs, hg⟩
      have st44 := stB.step hs hg
      clear hs hg stB
      by_cases h23 : v44 = 23
      · have b23 : (v44 == 23) = true := by simpa using h23
        clear h23
        go_wp2_with fail
        refine (src_range _ base g (b + 1 + 1 + 1 + 1 + 1 + 1 + 1) 0 24 st44.t0.src (by have := HB.out; omega) (by omega) (by omega) (by omega)).mono ?_
        rintro e w45 ⟨v45, rfl, v45a, v45b, hs, hg⟩
        have st45 := st44.step hs hg
        clear hs hg st44
        go_wp2_with fail
        refine (src_range _ base g (b + 1 + 1 + 1 + 1 + 1 + 1 + 1 + 1) 0 9 st45.t0.src (by have := HB.out; omega) (by omega) (by omega) (by omega)).mono ?_
        rintro e w46 ⟨v46, rfl, v46a, v46b, hs, hg⟩
        have st46 := st45.step hs hg
        clear hs hg st45
        have q0 := st46.cb.cell 0
        have f0 := st46.cb.free 0
        have q1 := st46.cb.cell 1
        have f1 := st46.cb.free 1
        have q2 := st46.cb.cell 2
        have f2 := st46.cb.free 2
        have q3 := st46.cb.cell 3
        have f3 := st46.cb.free 3
        have q4 := st46.cb.cell 4
        have f4 := st46.cb.free 4
        have stE := (st46.set0 v45).set1 v46
        have r0 := stE.t0.rb.cell 0
        have fr0 := stE.t0.rb.free 0
        have c0 := stE.cb.cell 0
        have r1 := stE.t0.rb.cell 1
        have fr1 := stE.t0.rb.free 1
        have c1 := stE.cb.cell 1
        have r2 := stE.t0.rb.cell 2
        have fr2 := stE.t0.rb.free 2
        have c2 := stE.cb.cell 2
        have r3 := stE.t0.rb.cell 3
        have fr3 := stE.t0.rb.free 3
        have c3 := stE.cb.cell 3
        have r4 := stE.t0.rb.cell 4
        have fr4 := stE.t0.rb.free 4
        have c4 := stE.cb.cell 4
        go_wp2_with fail
        refine bodyPost_ret (test_ret Tryz.func75 rfl _ _ w.heap.size _ rfl (((((stE.t0.rb.put 0 _).put 1 _).put 2 _).put 3 _).put 4 _) rfl) rfl ?_
        exact test_end stE (by omega) (by decide)
      · have b23 : (v44 == 23) = false := by simpa using h23
        clear h23
        have q0 := st44.cb.cell 0
        have f0 := st44.cb.free 0
        have q1 := st44.cb.cell 1
        have f1 := st44.cb.free 1
        have q2 := st44.cb.cell 2
        have f2 := st44.cb.free 2
        have q3 := st44.cb.cell 3
        have f3 := st44.cb.free 3
        have q4 := st44.cb.cell 4
        have f4 := st44.cb.free 4
        have stE := st44
        have r0 := stE.t0.rb.cell 0
        have fr0 := stE.t0.rb.free 0
        have c0 := stE.cb.cell 0
        have r1 := stE.t0.rb.cell 1
        have fr1 := stE.t0.rb.free 1
        have c1 := stE.cb.cell 1
        have r2 := stE.t0.rb.cell 2
        have fr2 := stE.t0.rb.free 2
        have c2 := stE.cb.cell 2
        have r3 := stE.t0.rb.cell 3
        have fr3 := stE.t0.rb.free 3
        have c3 := stE.cb.cell 3
        have r4 := stE.t0.rb.cell 4
        have fr4 := stE.t0.rb.free 4
        have c4 := stE.cb.cell 4
        go_wp2_with fail
        refine bodyPost_ret (test_ret Tryz.func75 rfl _ _ w.heap.size _ rfl (((((stE.t0.rb.put 0 _).put 1 _).put 2 _).put 3 _).put 4 _) rfl) rfl ?_
        exact test_end stE (by omega) (by decide)
    · subst e1
      go_wp2_with fail
      refine (src_range _ base g (b + 1 + 1 + 1 + 1) 1 6 st5.t0.src (by have := HB.out; omega) (by omega) (by omega) (by omega)).mono ?_
      rintro e w47 ⟨v47, rfl, v47a, v47b, hs, hg⟩
      have st47 := st5.step hs hg
      clear hs hg st5
      go_wp2_with fail
      refine (src_pick _ base g w47.heap.size (b + 1 + 1 + 1 + 1 + 1) 7 (1005) 1320 _ 3 (0, 0) (st47.t0.src.alloc _) (by have := HB.out; omega) (heap_alloc_new w47 _) (by have := st47.lt; omega) rfl (by omega) (by omega) rfl).mono ?_
      rintro e w48 ⟨v48, rfl, v48a, v48b, hs, hg⟩
      have st48 := (st47.alloc (.cells #[.int .i64 1300, .int .i64 1302, .int .i64 1307, .int .i64 1309, .int .i64 1005, .int .i64 1320, .int .i64 1306] 3)).step hs hg
      clear hs hg st47
      have q0 := st48.cb.cell 0
      have f0 := st48.cb.free 0
      have q1 := st48.cb.cell 1
      have f1 := st48.cb.free 1
      have q2 := st48.cb.cell 2
      have f2 := st48.cb.free 2
      have q3 := st48.cb.cell 3
      have f3 := st48.cb.free 3
      have q4 := st48.cb.cell 4
      have f4 := st48.cb.free 4
      have stB := ((((st48.set0 22).set1 v47).set2 v48).set3 ⟨#[]⟩).set4 0
      go_wp2_with fail
      clear q0 f0 q1 f1 q2 f2 q3 f3 q4 f4
      clear st48
      refine (src_n _ base g (b + 1 + 1 + 1 + 1 + 1 + 1) 24 stB.t0.src (by have := HB.out; omega) (by omega) (by omega)).mono ?_
      rintro e w49 ⟨v49, rfl, v49a, v49b, hs, hg⟩
      have st49 := stB.step hs hg
      clear hs hg stB
      by_cases h23 : v49 = 23
      · have b23 : (v49 == 23) = true := by simpa using h23
        clear h23
        go_wp2_with fail
        refine (src_range _ base g (b + 1 + 1 + 1 + 1 + 1 + 1 + 1) 0 24 st49.t0.src (by have := HB.out; omega) (by omega) (by omega) (by omega)).mono ?_
        rintro e w50 ⟨v50, rfl, v50a, v50b, hs, hg⟩
        have st50 := st49.step hs hg
        clear hs hg st49
        go_wp2_with fail
        refine (src_range _ base g (b + 1 + 1 + 1 + 1 + 1 + 1 + 1 + 1) 0 9 st50.t0.src (by have := HB.out; omega) (by omega) (by omega) (by omega)).mono ?_
        rintro e w51 ⟨v51, rfl, v51a, v51b, hs, hg⟩
        have st51 := st50.step hs hg
        clear hs hg st50
        have q0 := st51.cb.cell 0
        have f0 := st51.cb.free 0
        have q1 := st51.cb.cell 1
        have f1 := st51.cb.free 1
        have q2 := st51.cb.cell 2
        have f2 := st51.cb.free 2
        have q3 := st51.cb.cell 3
        have f3 := st51.cb.free 3
        have q4 := st51.cb.cell 4
        have f4 := st51.cb.free 4
        have stE := (st51.set0 v50).set1 v51
        have r0 := stE.t0.rb.cell 0
        have fr0 := stE.t0.rb.free 0
        have c0 := stE.cb.cell 0
        have r1 := stE.t0.rb.cell 1
        have fr1 := stE.t0.rb.free 1
        have c1 := stE.cb.cell 1
        have r2 := stE.t0.rb.cell 2
        have fr2 := stE.t0.rb.free 2
        have c2 := stE.cb.cell 2
        have r3 := stE.t0.rb.cell 3
        have fr3 := stE.t0.rb.free 3
        have c3 := stE.cb.cell 3
        have r4 := stE.t0.rb.cell 4
        have fr4 := stE.t0.rb.free 4
        have c4 := stE.cb.cell 4
        go_wp2_with fail
        refine bodyPost_ret (test_ret Tryz.func75 rfl _ _ w.heap.size _ rfl (((((stE.t0.rb.put 0 _).put 1 _).put 2 _).put 3 _).put 4 _) rfl) rfl ?_
        exact test_end stE (by omega) (by decide)
      · have b23 : (v49 == 23) = false := by simpa using h23
        clear h23
        have q0 := st49.cb.cell 0
        have f0 := st49.cb.free 0
        have q1 := st49.cb.cell 1
        have f1 := st49.cb.free 1
        have q2 := st49.cb.cell 2
        have f2 := st49.cb.free 2
        have q3 := st49.cb.cell 3
        have f3 := st49.cb.free 3
        have q4 := st49.cb.cell 4
        have f4 := st49.cb.free 4
        have stE := st49
        have r0 := stE.t0.rb.cell 0
        have fr0 := stE.t0.rb.free 0
        have c0 := stE.cb.cell 0
        have r1 := stE.t0.rb.cell 1
        have fr1 := stE.t0.rb.free 1
        have c1 := stE.cb.cell 1
        have r2 := stE.t0.rb.cell 2
        have fr2 := stE.t0.rb.free 2
        have c2 := stE.cb.cell 2
        have r3 := stE.t0.rb.cell 3
        have fr3 := stE.t0.rb.free 3
        have c3 := stE.cb.cell 3
        have r4 := stE.t0.rb.cell 4
        have fr4 := stE.t0.rb.free 4
        have c4 := stE.cb.cell 4
        go_wp2_with fail
        refine bodyPost_ret (test_ret Tryz.func75 rfl _ _ w.heap.size _ rfl (((((stE.t0.rb.put 0 _).put 1 _).put 2 _).put 3 _).put 4 _) rfl) rfl ?_
        exact test_end stE (by omega) (by decide)
  · rcases (show k = 2 ∨ (2 < k ∧ k < 5) ∨ k = 5 ∨ 5 < k by omega) with e1 | e1 | e1 | e1
    · subst e1
      have l3 : (l == 3) = false := by simp; omega
      have l2 : (l == 2) = false := by simp; omega
      have l5 : (l == 5) = false := by simp; omega
      go_wp2_with fail
      refine (src_n _ base g (b + 1 + 1 + 1 + 1) 24 st5.t0.src (by have := HB.out; omega) (by omega) (by omega)).mono ?_
      rintro e w52 ⟨v52, rfl, v52a, v52b, hs, hg⟩
      have st52 := st5.step hs hg
      clear hs hg st5
      by_cases h23 : v52 = 23
      · have b23 : (v52 == 23) = true := by simpa using h23
        clear h23
        go_wp2_with fail
        refine (src_range _ base g (b + 1 + 1 + 1 + 1 + 1) 0 24 st52.t0.src (by have := HB.out; omega) (by omega) (by omega) (by omega)).mono ?_
        rintro e w53 ⟨v53, rfl, v53a, v53b, hs, hg⟩
        have st53 := st52.step hs hg
        clear hs hg st52
        go_wp2_with fail
        refine (src_range _ base g (b + 1 + 1 + 1 + 1 + 1 + 1) 0 9 st53.t0.src (by have := HB.out; omega) (by omega) (by omega) (by omega)).mono ?_
        rintro e w54 ⟨v54, rfl, v54a, v54b, hs, hg⟩
        have st54 := st53.step hs hg
        clear hs hg st53
        have q0 := st54.cb.cell 0
        have f0 := st54.cb.free 0
        have q1 := st54.cb.cell 1
        have f1 := st54.cb.free 1
        have q2 := st54.cb.cell 2
        have f2 := st54.cb.free 2
        have q3 := st54.cb.cell 3
        have f3 := st54.cb.free 3
        have q4 := st54.cb.cell 4
        have f4 := st54.cb.free 4
        have stE := (st54.set0 v53).set1 v54
        have r0 := stE.t0.rb.cell 0
        have fr0 := stE.t0.rb.free 0
        have c0 := stE.cb.cell 0
        have r1 := stE.t0.rb.cell 1
        have fr1 := stE.t0.rb.free 1
        have c1 := stE.cb.cell 1
        have r2 := stE.t0.rb.cell 2
        have fr2 := stE.t0.rb.free 2
        have c2 := stE.cb.cell 2
        have r3 := stE.t0.rb.cell 3
        have fr3 := stE.t0.rb.free 3
        have c3 := stE.cb.cell 3
        have r4 := stE.t0.rb.cell 4
        have fr4 := stE.t0.rb.free 4
        have c4 := stE.cb.cell 4
        go_wp2_with fail
        refine bodyPost_ret (test_ret Tryz.func75 rfl _ _ w.heap.size _ rfl (((((stE.t0.rb.put 0 _).put 1 _).put 2 _).put 3 _).put 4 _) rfl) rfl ?_
        exact test_end stE (by omega) (by decide)
      · have b23 : (v52 == 23) = false := by simpa using h23
        clear h23
        have q0 := st52.cb.cell 0
        have f0 := st52.cb.free 0
        have q1 := st52.cb.cell 1
        have f1 := st52.cb.free 1
        have q2 := st52.cb.cell 2
        have f2 := st52.cb.free 2
        have q3 := st52.cb.cell 3
        have f3 := st52.cb.free 3
        have q4 := st52.cb.cell 4
        have f4 := st52.cb.free 4
        have stE := st52
        have r0 := stE.t0.rb.cell 0
        have fr0 := stE.t0.rb.free 0
        have c0 := stE.cb.cell 0
        have r1 := stE.t0.rb.cell 1
        have fr1 := stE.t0.rb.free 1
        have c1 := stE.cb.cell 1
        have r2 := stE.t0.rb.cell 2
        have fr2 := stE.t0.rb.free 2
        have c2 := stE.cb.cell 2
        have r3 := stE.t0.rb.cell 3
        have fr3 := stE.t0.rb.free 3
        have c3 := stE.cb.cell 3
        have r4 := stE.t0.rb.cell 4
        have fr4 := stE.t0.rb.free 4
        have c4 := stE.cb.cell 4
        go_wp2_with fail
        refine bodyPost_ret (test_ret Tryz.func75 rfl _ _ w.heap.size _ rfl (((((stE.t0.rb.put 0 _).put 1 _).put 2 _).put 3 _).put 4 _) rfl) rfl ?_
        exact test_end stE (by omega) (by decide)
    · obtain ⟨e1, e2⟩ := e1
      have n0 : (k == 0) = false := by simp; omega
      have n1 : (k == 1) = false := by simp; omega
      have n2 : (k == 2) = false := by simp; omega
      have l3 : (l == 3) = false := by simp; omega
      have l2 : (l == 2) = false := by simp; omega
      have l5 : (l == 5) = false := by simp; omega
      go_wp2_with fail
      refine (src_n _ base g (b + 1 + 1 + 1 + 1) 24 st5.t0.src (by have := HB.out; omega) (by omega) (by omega)).mono ?_
      rintro e w55 ⟨v55, rfl, v55a, v55b, hs, hg⟩
      have st55 := st5.step hs hg
      clear hs hg st5
      by_cases h23 : v55 = 23
      · have b23 : (v55 == 23) = true := by simpa using h23
        clear h23
        go_wp2_with fail
        refine (src_range _ base g (b + 1 + 1 + 1 + 1 + 1) 0 24 st55.t0.src (by have := HB.out; omega) (by omega) (by omega) (by omega)).mono ?_
        rintro e w56 ⟨v56, rfl, v56a, v56b, hs, hg⟩
        have st56 := st55.step hs hg
        clear hs hg st55
        go_wp2_with fail
        refine (src_range _ base g (b + 1 + 1 + 1 + 1 + 1 + 1) 0 9 st56.t0.src (by have := HB.out; omega) (by omega) (by omega) (by omega)).mono ?_
        rintro e w57 ⟨v57, rfl, v57a, v57b, hs, hg⟩
        have st57 := st56.step hs hg
        clear hs hg st56
        have q0 := st57.cb.cell 0
        have f0 := st57.cb.free 0
        have q1 := st57.cb.cell 1
        have f1 := st57.cb.free 1
        have q2 := st57.cb.cell 2
        have f2 := st57.cb.free 2
        have q3 := st57.cb.cell 3
        have f3 := st57.cb.free 3
        have q4 := st57.cb.cell 4
        have f4 := st57.cb.free 4
        have stE := (st57.set0 v56).set1 v57
        have r0 := stE.t0.rb.cell 0
        have fr0 := stE.t0.rb.free 0
        have c0 := stE.cb.cell 0
        have r1 := stE.t0.rb.cell 1
        have fr1 := stE.t0.rb.free 1
        have c1 := stE.cb.cell 1
        have r2 := stE.t0.rb.cell 2
        have fr2 := stE.t0.rb.free 2
        have c2 := stE.cb.cell 2
        have r3 := stE.t0.rb.cell 3
        have fr3 := stE.t0.rb.free 3
        have c3 := stE.cb.cell 3
        have r4 := stE.t0.rb.cell 4
        have fr4 := stE.t0.rb.free 4
        have c4 := stE.cb.cell 4
        go_wp2_with fail
        refine bodyPost_ret (test_ret Tryz.func75 rfl _ _ w.heap.size _ rfl (((((stE.t0.rb.put 0 _).put 1 _).put 2 _).put 3 _).put 4 _) rfl) rfl ?_
        exact test_end stE (by omega) (by decide)
      · have b23 : (v55 == 23) = false := by simpa using h23
        clear h23
        have q0 := st55.cb.cell 0
        have f0 := st55.cb.free 0
        have q1 := st55.cb.cell 1
        have f1 := st55.cb.free 1
        have q2 := st55.cb.cell 2
        have f2 := st55.cb.free 2
        have q3 := st55.cb.cell 3
        have f3 := st55.cb.free 3
        have q4 := st55.cb.cell 4
        have f4 := st55.cb.free 4
        have stE := st55
        have r0 := stE.t0.rb.cell 0
        have fr0 := stE.t0.rb.free 0
        have c0 := stE.cb.cell 0
        have r1 := stE.t0.rb.cell 1
        have fr1 := stE.t0.rb.free 1
        have c1 := stE.cb.cell 1
        have r2 := stE.t0.rb.cell 2
        have fr2 := stE.t0.rb.free 2
        have c2 := stE.cb.cell 2
        have r3 := stE.t0.rb.cell 3
        have fr3 := stE.t0.rb.free 3
        have c3 := stE.cb.cell 3
        have r4 := stE.t0.rb.cell 4
        have fr4 := stE.t0.rb.free 4
        have c4 := stE.cb.cell 4
        go_wp2_with fail
        refine bodyPost_ret (test_ret Tryz.func75 rfl _ _ w.heap.size _ rfl (((((stE.t0.rb.put 0 _).put 1 _).put 2 _).put 3 _).put 4 _) rfl) rfl ?_
        exact test_end stE (by omega) (by decide)
    · subst e1
      have l5 : (l == 5) = false := by simp; omega
      go_wp2_with fail
      refine (src_n _ base g (b + 1 + 1 + 1 + 1) 24 st5.t0.src (by have := HB.out; omega) (by omega) (by omega)).mono ?_
      rintro e w58 ⟨v58, rfl, v58a, v58b, hs, hg⟩
      have st58 := st5.step hs hg
      clear hs hg st5
      by_cases h23 : v58 = 23
      · have b23 : (v58 == 23) = true := by simpa using h23
        clear h23
        go_wp2_with fail
        refine (src_range _ base g (b + 1 + 1 + 1 + 1 + 1) 0 24 st58.t0.src (by have := HB.out; omega) (by omega) (by omega) (by omega)).mono ?_
        rintro e w59 ⟨v59, rfl, v59a, v59b, hs, hg⟩
        have st59 := st58.step hs hg
        clear hs hg st58
        go_wp2_with fail
        refine (src_range _ base g (b + 1 + 1 + 1 + 1 + 1 + 1) 0 9 st59.t0.src (by have := HB.out; omega) (by omega) (by omega) (by omega)).mono ?_
        rintro e w60 ⟨v60, rfl, v60a, v60b, hs, hg⟩
        have st60 := st59.step hs hg
        clear hs hg st59
        have q0 := st60.cb.cell 0
        have f0 := st60.cb.free 0
        have q1 := st60.cb.cell 1
        have f1 := st60.cb.free 1
        have q2 := st60.cb.cell 2
        have f2 := st60.cb.free 2
        have q3 := st60.cb.cell 3
        have f3 := st60.cb.free 3
        have q4 := st60.cb.cell 4
        have f4 := st60.cb.free 4
        have stE := (st60.set0 v59).set1 v60
        have r0 := stE.t0.rb.cell 0
        have fr0 := stE.t0.rb.free 0
        have c0 := stE.cb.cell 0
        have r1 := stE.t0.rb.cell 1
        have fr1 := stE.t0.rb.free 1
        have c1 := stE.cb.cell 1
        have r2 := stE.t0.rb.cell 2
        have fr2 := stE.t0.rb.free 2
        have c2 := stE.cb.cell 2
        have r3 := stE.t0.rb.cell 3
        have fr3 := stE.t0.rb.free 3
        have c3 := stE.cb.cell 3
        have r4 := stE.t0.rb.cell 4
        have fr4 := stE.t0.rb.free 4
        have c4 := stE.cb.cell 4
        go_wp2_with fail
        refine bodyPost_ret (test_ret Tryz.func75 rfl _ _ w.heap.size _ rfl (((((stE.t0.rb.put 0 _).put 1 _).put 2 _).put 3 _).put 4 _) rfl) rfl ?_
        exact test_end stE (by omega) (by decide)
      · have b23 : (v58 == 23) = false := by simpa using h23
        clear h23
        have q0 := st58.cb.cell 0
        have f0 := st58.cb.free 0
        have q1 := st58.cb.cell 1
        have f1 := st58.cb.free 1
        have q2 := st58.cb.cell 2
        have f2 := st58.cb.free 2
        have q3 := st58.cb.cell 3
        have f3 := st58.cb.free 3
        have q4 := st58.cb.cell 4
        have f4 := st58.cb.free 4
        have stE := st58
        have r0 := stE.t0.rb.cell 0
        have fr0 := stE.t0.rb.free 0
        have c0 := stE.cb.cell 0
        have r1 := stE.t0.rb.cell 1
        have fr1 := stE.t0.rb.free 1
        have c1 := stE.cb.cell 1
        have r2 := stE.t0.rb.cell 2
        have fr2 := stE.t0.rb.free 2
        have c2 := stE.cb.cell 2
        have r3 := stE.t0.rb.cell 3
        have fr3 := stE.t0.rb.free 3
        have c3 := stE.cb.cell 3
        have r4 := stE.t0.rb.cell 4
        have fr4 := stE.t0.rb.free 4
        have c4 := stE.cb.cell 4
        go_wp2_with fail
        refine bodyPost_ret (test_ret Tryz.func75 rfl _ _ w.heap.size _ rfl (((((stE.t0.rb.put 0 _).put 1 _).put 2 _).put 3 _).put 4 _) rfl) rfl ?_
        exact test_end stE (by omega) (by decide)
    · have n0 : (k == 0) = false := by simp; omega
      have n1 : (k == 1) = false := by simp; omega
      have n2 : (k == 2) = false := by simp; omega
      go_wp2_with fail
      refine (src_n _ base g (b + 1 + 1 + 1 + 1) 24 st5.t0.src (by have := HB.out; omega) (by omega) (by omega)).mono ?_
      rintro e w61 ⟨v61, rfl, v61a, v61b, hs, hg⟩
      have st61 := st5.step hs hg
      clear hs hg st5
      by_cases h23 : v61 = 23
      · have b23 : (v61 == 23) = true := by simpa using h23
        clear h23
        go_wp2_with fail
        refine (src_range _ base g (b + 1 + 1 + 1 + 1 + 1) 0 24 st61.t0.src (by have := HB.out; omega) (by omega) (by omega) (by omega)).mono ?_
        rintro e w62 ⟨v62, rfl, v62a, v62b, hs, hg⟩
        have st62 := st61.step hs hg
        clear hs hg st61
        go_wp2_with fail
        refine (src_range _ base g (b + 1 + 1 + 1 + 1 + 1 + 1) 0 9 st62.t0.src (by have := HB.out; omega) (by omega) (by omega) (by omega)).mono ?_
        rintro e w63 ⟨v63, rfl, v63a, v63b, hs, hg⟩
        have st63 := st62.step hs hg
        clear hs hg st62
        have q0 := st63.cb.cell 0
        have f0 := st63.cb.free 0
        have q1 := st63.cb.cell 1
        have f1 := st63.cb.free 1
        have q2 := st63.cb.cell 2
        have f2 := st63.cb.free 2
        have q3 := st63.cb.cell 3
        have f3 := st63.cb.free 3
        have q4 := st63.cb.cell 4
        have f4 := st63.cb.free 4
        have stE := (st63.set0 v62).set1 v63
        have r0 := stE.t0.rb.cell 0
        have fr0 := stE.t0.rb.free 0
        have c0 := stE.cb.cell 0
        have r1 := stE.t0.rb.cell 1
        have fr1 := stE.t0.rb.free 1
        have c1 := stE.cb.cell 1
        have r2 := stE.t0.rb.cell 2
        have fr2 := stE.t0.rb.free 2
        have c2 := stE.cb.cell 2
        have r3 := stE.t0.rb.cell 3
        have fr3 := stE.t0.rb.free 3
        have c3 := stE.cb.cell 3
        have r4 := stE.t0.rb.cell 4
        have fr4 := stE.t0.rb.free 4
        have c4 := stE.cb.cell 4
        go_wp2_with fail
        refine bodyPost_ret (test_ret Tryz.func75 rfl _ _ w.heap.size _ rfl (((((stE.t0.rb.put 0 _).put 1 _).put 2 _).put 3 _).put 4 _) rfl) rfl ?_
        exact test_end stE (by omega) (by decide)
      · have b23 : (v61 == 23) = false := by simpa using h23
        clear h23
        have q0 := st61.cb.cell 0
        have f0 := st61.cb.free 0
        have q1 := st61.cb.cell 1
        have f1 := st61.cb.free 1
        have q2 := st61.cb.cell 2
        have f2 := st61.cb.free 2
        have q3 := st61.cb.cell 3
        have f3 := st61.cb.free 3
        have q4 := st61.cb.cell 4
        have f4 := st61.cb.free 4
        have stE := st61
        have r0 := stE.t0.rb.cell 0
        have fr0 := stE.t0.rb.free 0
        have c0 := stE.cb.cell 0
        have r1 := stE.t0.rb.cell 1
        have fr1 := stE.t0.rb.free 1
        have c1 := stE.cb.cell 1
        have r2 := stE.t0.rb.cell 2
        have fr2 := stE.t0.rb.free 2
        have c2 := stE.cb.cell 2
        have r3 := stE.t0.rb.cell 3
        have fr3 := stE.t0.rb.free 3
        have c3 := stE.cb.cell 3
        have r4 := stE.t0.rb.cell 4
        have fr4 := stE.t0.rb.free 4
        have c4 := stE.cb.cell 4
        go_wp2_with fail
        refine bodyPost_ret (test_ret Tryz.func75 rfl _ _ w.heap.size _ rfl (((((stE.t0.rb.put 0 _).put 1 _).put 2 _).put 3 _).put 4 _) rfl) rfl ?_
        exact test_end stE (by omega) (by decide)
end Go.Proofs.YtollifnnpihfdaaGreatDoor

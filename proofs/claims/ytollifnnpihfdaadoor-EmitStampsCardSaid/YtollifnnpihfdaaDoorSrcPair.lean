/- The source of numbers of package kauditmake: Text and Pair. -/
import Derived.Test.YtollifnnpihfdaaDoorSrc2
import Derived.Test.YtollifnnpihfdaaDoorCheck
namespace Go.Proofs.YtollifnnpihfdaaDoor
open Go.RowKit
set_option maxHeartbeats 1000000 in
theorem src_text (w : World) (base g : Nat) (b : Int) (h : SrcOk w base g b) (hb : b ≤ 100000000000000) :
    Calls Tryd.prog 17 #[.pointer (some ⟨g, 0, none⟩)] w (SPost w base g (b + 5) 4) := by
  have H := Lib.hid h
  have HB := Lib.hid hb
  clear h hb
  go_enter Tryd.func17, Tryd.ntmps17
  go_wp2_with fail
  refine (src_n _ base g b _ H.out (by have := HB.out; omega) (by omega) (by omega)).mono ?_
  rintro e w1 ⟨x, rfl, hx0, hx1, hs, hg⟩
  obtain ⟨k0, rfl⟩ := Int.eq_ofNat_of_zero_le hx0
  have HS := Lib.hid hs
  clear hs hx0
  go_wp2_with fail
  go_loopw [3, 4] (fun v i wr => ∃ (T : ByteArray) (k : Nat), v = .string T ∧ i = .int .i64 (k : Int) ∧ T.size + k ≤ 4 ∧ w.grownBy wr (some g) ∧ Hid (SrcOk wr base g (b + 5 - k))) (fun _ i _ => (intOf i).toNat)
  case atStart => exact ⟨⟨#[]⟩, k0, rfl, rfl, by show 0 + k0 ≤ 4; omega, hg, HS.out.more (by omega)⟩
  case round =>
    obtain ⟨T, k, rfl, rfl, hT, hgr, hsr⟩ := hrel
    clear hg HS hx1
    by_cases hk : 0 < k
    · have hk1 : (0 : Int) < (k : Int) := by omega
      have hT4 : T.size ≤ 4 := by omega
      have hlt : g < wr.heap.size := src_lt hsr.out
      go_wp2_with fail
      refine (src_word _ base g wr.heap.size (b + 5 - k) 12 1 _ 9 (0, 0) (hsr.out.alloc _) (by have := HB.out; omega) (heap_alloc_new wr _) (by omega) rfl (by omega) (by omega) rfl).mono ?_
      rintro e w2 ⟨y, rfl, hym, hs2, hg2⟩
      have HS2 := Lib.hid hs2
      have hgf := (only_alloc hgr _).trans hg2
      clear hs2 hg2
      go_wp2_with fail
      go_roundw
      case rel => exact ⟨_, k - 1, rfl, by go_num, by rw [ByteArray.size_append]; omega, hgf, HS2.out.more (by omega)⟩
      case measure => simp [intOf]; omega
    · go_wp2_with fail
      go_ret
      exact ⟨_, rfl, by omega, hsr.out.more (by omega), hgr⟩
theorem heap_new_at {w : World} {o : Obj} {k : Nat} (h : w.heap.size = k) : (w.alloc o).heap[k]? = some o := h ▸ heap_alloc_new w o
/-- A block of the call's own that holds a pair. -/
def PBlk (w : World) (p : Nat) (nm : ByteArray) (kd nu : Int) (tx : ByteArray) : Prop := w.heap[p]? = some (.cells #[.string nm, .int .i64 kd, .int .i64 nu, .string tx] 39 (0, 0))
theorem PBlk.lt {w : World} {p : Nat} {nm : ByteArray} {kd nu : Int} {tx : ByteArray} (h : PBlk w p nm kd nu tx) : p < w.heap.size := (Array.getElem?_eq_some_iff.1 h).1
theorem PBlk.cells {w : World} {p : Nat} {nm : ByteArray} {kd nu : Int} {tx : ByteArray} (h : PBlk w p nm kd nu tx) :
    w.cell? ⟨p, 0, none⟩ = some (.string nm) ∧ w.cell? ⟨p, 1, none⟩ = some (.int .i64 kd) ∧ w.cell? ⟨p, 2, none⟩ = some (.int .i64 nu) ∧ w.cell? ⟨p, 3, none⟩ = some (.string tx) :=
  ⟨cell_of_row w p 0 _ _ _ h, cell_of_row w p 1 _ _ _ h, cell_of_row w p 2 _ _ _ h, cell_of_row w p 3 _ _ _ h⟩
theorem PBlk.frozen {w : World} {p : Nat} {nm : ByteArray} {kd nu : Int} {tx : ByteArray} (h : PBlk w p nm kd nu tx) : ∀ i, w.frozen? ⟨p, i, none⟩ = false := fun i => frozen_of_row w p i _ _ h
theorem PBlk.only {w w' : World} {p g : Nat} {nm : ByteArray} {kd nu : Int} {tx : ByteArray} (h : PBlk w p nm kd nu tx) (hg : w.grownBy w' (some g)) (hne : p ≠ g) : PBlk w' p nm kd nu tx :=
  (hg.block p h.lt (fun e => hne (by injection e))).trans h
theorem PBlk.alloc {w : World} {p : Nat} {nm : ByteArray} {kd nu : Int} {tx : ByteArray} (h : PBlk w p nm kd nu tx) (o : Obj) : PBlk (w.alloc o) p nm kd nu tx := (Below.heap_alloc w o p h.lt).trans h
theorem PBlk.set {w : World} {p : Nat} {nm : ByteArray} {kd nu : Int} {tx : ByteArray} (h : PBlk w p nm kd nu tx) (i : Nat) (u : Value) : (w.setCell ⟨p, i, none⟩ u).heap[p]? = some (.cells ((#[.string nm, .int .i64 kd, .int .i64 nu, .string tx] : Array Value).setIfInBounds i u) 39 (0, 0)) := heap_setCell_same w p i _ _ u h
theorem PBlk.far {w : World} {p : Nat} {nm : ByteArray} {kd nu : Int} {tx : ByteArray} (h : PBlk w p nm kd nu tx) {q : Addr} (hq : p ≠ q.block) (u : Value) : PBlk (w.setCell q u) p nm kd nu tx := (Below.heap_setCell w q u p hq).trans h
theorem four_set {w : World} {r : Nat} {nm0 : ByteArray} {kd0 nu0 : Int} {tx0 : ByteArray} (h : PBlk w r nm0 kd0 nu0 tx0) (nm : ByteArray) (kd nu : Int) (tx : ByteArray) :
    PBlk ((((w.setCell ⟨r, 0, none⟩ (.string nm)).setCell ⟨r, 1, none⟩ (.int .i64 kd)).setCell ⟨r, 2, none⟩ (.int .i64 nu)).setCell ⟨r, 3, none⟩ (.string tx)) r nm kd nu tx := by
  have h1 := h.set 0 (.string nm)
  have h2 := heap_setCell_same _ r 1 _ _ (.int .i64 kd) h1
  have h3 := heap_setCell_same _ r 2 _ _ (.int .i64 nu) h2
  exact heap_setCell_same _ r 3 _ _ (.string tx) h3
theorem four_only {a w : World} {g r : Nat} (h : a.grownBy w (some g)) (hr : r = g ∨ a.heap.size ≤ r) (nm : ByteArray) (kd nu : Int) (tx : ByteArray) :
    a.grownBy ((((w.setCell ⟨r, 0, none⟩ (.string nm)).setCell ⟨r, 1, none⟩ (.int .i64 kd)).setCell ⟨r, 2, none⟩ (.int .i64 nu)).setCell ⟨r, 3, none⟩ (.string tx)) (some g) :=
  only_setCell (p := ⟨r, 3, none⟩) (only_setCell (p := ⟨r, 2, none⟩) (only_setCell (p := ⟨r, 1, none⟩) (only_setCell (p := ⟨r, 0, none⟩) h hr _) hr _) hr _) hr _
theorem four_src {w : World} {base g r : Nat} {b : Int} (h : SrcOk w base g b) (hr : base ≤ r) (hne : r ≠ g) (nm : ByteArray) (kd nu : Int) (tx : ByteArray) :
    SrcOk ((((w.setCell ⟨r, 0, none⟩ (.string nm)).setCell ⟨r, 1, none⟩ (.int .i64 kd)).setCell ⟨r, 2, none⟩ (.int .i64 nu)).setCell ⟨r, 3, none⟩ (.string tx)) base g b :=
  (((h.setCell (p := ⟨r, 0, none⟩) hr hne _).setCell (p := ⟨r, 1, none⟩) hr hne _).setCell (p := ⟨r, 2, none⟩) hr hne _).setCell (p := ⟨r, 3, none⟩) hr hne _
abbrev pairO' (nm : ByteArray) (kd nu : Int) (tx : ByteArray) : Obj := .cells #[.string nm, .int .i64 kd, .int .i64 nu, .string tx] 39
theorem pick7 (z : Int) (h0 : 0 ≤ z) (h1 : z < 1000) : intsIn #[.int .i64 0, .int .i64 1, .int .i64 (-1), .int .i64 42, .int .i64 9223372036854775807, .int .i64 (-9223372036854775808), .int .i64 z] (-9223372036854775808) 9223372036854775807 = true := by
  unfold intsIn; simp; omega
def PairPost (w : World) (base g : Nat) (b : Int) (e : Ending) (w' : World) : Prop := ∃ (nm : ByteArray) (kd nu : Int) (tx : ByteArray), e = .returned (pairV nm kd nu tx) ∧ nm.size ≤ 17 ∧ 1 ≤ kd ∧ kd ≤ 3 ∧ -9223372036854775808 ≤ nu ∧ nu ≤ 9223372036854775807 ∧ tx.size ≤ 4 ∧ SrcOk w' base g b ∧ w.grownBy w' (some g)
set_option maxHeartbeats 4000000 in
theorem src_pair (w : World) (base g : Nat) (b : Int) (h : SrcOk w base g b) (hb : b ≤ 10000000000000) :
    Calls Tryd.prog 11 #[.pointer (some ⟨g, 0, none⟩)] w (PairPost w base g (b + 20)) := by
  have H := Lib.hid h
  have HB := Lib.hid hb
  have hlt : g < w.heap.size := src_lt h
  clear h hb
  go_enter Tryd.func11, Tryd.ntmps11
  go_wp2_with fail
  refine (src_word _ base g (w.heap.size + 1) b 8 4 _ 9 (0, 0) ((H.out.alloc _).alloc _) (by have := HB.out; omega) (heap_new_at (by simp)) (by omega) rfl (by omega) (by omega) rfl).mono ?_
  rintro e w1 ⟨nm, rfl, hnm, hs1, hg1⟩
  have HS1 := Lib.hid hs1
  have hr1 : w1.heap[w.heap.size]? = some (.cells #[.string ⟨#[]⟩, .int .i64 0, .int .i64 0, .string ⟨#[]⟩] 39 (0, 0)) := (hg1.block w.heap.size (by simp; omega) (fun e => by injection e with e; omega)).trans ((Below.heap_alloc _ _ _ (by simp)).trans (heap_alloc_new w _))
  have R1 : PBlk w1 w.heap.size ⟨#[]⟩ 0 0 ⟨#[]⟩ := hr1
  have hgo := (only_alloc (only_alloc (World.grownBy.refl w (some g)) _) _).trans hg1
  clear hs1 hr1 hg1
  go_wp2_with fail
  refine (src_range _ base g (b + 1) 1 3 HS1.out (by have := HB.out; omega) (by omega) (by omega) (by omega)).mono ?_
  rintro e w2 ⟨kd, rfl, hk1, hk3, hs2, hg2⟩
  have HS2 := Lib.hid hs2
  have R2 := R1.only hg2 (by omega)
  have hgo2 := hgo.trans hg2
  have hRg : w.heap.size ≠ g := by omega
  have hRg2 : w.heap.size = g ∨ w.heap.size ≤ w.heap.size := .inr (Nat.le_refl _)
  have hbR : base ≤ w.heap.size := by have := H.out.1; omega
  have hlt2 : w.heap.size < w2.heap.size := R2.lt
  clear hs2 hg2 hgo R1 HS1
  have hkd : kd = 1 ∨ kd = 2 ∨ kd = 3 := by omega
  have hPg : w2.heap.size ≠ g := by omega
  rcases hkd with hk | hk | hk <;> subst hk
  · go_wp2_with fail
    refine (src_n _ base g (b + 2) _ ((HS2.out.alloc _).more (by omega)) (by have := HB.out; omega) (by omega) (by omega)).mono ?_
    rintro e w3 ⟨z, rfl, hz0, hz1, hs3, hg3⟩
    have HS3 := Lib.hid hs3
    have R3 := (R2.alloc _).only hg3 hRg
    have Q3 : PBlk w3 w2.heap.size nm 1 0 ⟨#[]⟩ := PBlk.only (w := w2.alloc _) (heap_alloc_new w2 _) hg3 hPg
    have hgo3 := (only_alloc hgo2 _).trans hg3
    have hlt3 : w2.heap.size < w3.heap.size := Q3.lt
    clear hs3 hg3 R2 hgo2 HS2
    go_wp2_with fail
    refine (src_pick _ base g w3.heap.size (b + 3) 7 (-9223372036854775808) 9223372036854775807 _ 3 (0, 0) ((HS3.out.more (by omega)).alloc _) (by have := HB.out; omega) (heap_alloc_new w3 _) (by have := src_lt HS3.out; omega) rfl (by omega) (by omega) (pick7 z hz0 hz1)).mono ?_
    rintro e w4 ⟨nu, rfl, hnu0, hnu1, hs4, hg4⟩
    have HS4 := Lib.hid hs4
    have R4 := (R3.alloc _).only hg4 hRg
    have Q4 := (Q3.alloc _).only hg4 hPg
    have hgo4 := (only_alloc hgo3 _).trans hg4
    clear hs4 hg4 R3 Q3 hgo3 HS3
    obtain ⟨q0, q1, q2, q3⟩ := Q4.cells
    have qf2 := Q4.frozen 2
    have HS := Lib.hid ((HS4.out.setCell (p := ⟨w2.heap.size, 2, none⟩) (by show base ≤ w2.heap.size; omega) hPg (.int .i64 nu)).more (show b + 3 + 1 ≤ b + 8 by omega))
    have R := R4.far (q := ⟨w2.heap.size, 2, none⟩) (by show w.heap.size ≠ w2.heap.size; omega) (.int .i64 nu)
    have Q : PBlk (w4.setCell ⟨w2.heap.size, 2, none⟩ (.int .i64 nu)) w2.heap.size nm 1 nu ⟨#[]⟩ := Q4.set 2 (.int .i64 nu)
    have hgo := only_setCell (p := ⟨w2.heap.size, 2, none⟩) hgo4 (.inr (Nat.le_of_lt hlt2)) (.int .i64 nu)
    have HQR := Lib.hid (And.intro HS.out (And.intro R (And.intro Q hgo)))
    clear R Q hgo HS R4 Q4 hgo4 HS4
    go_wp2_with fail
    obtain ⟨hS, R, Q, hgo⟩ := HQR.out
    have HS := Lib.hid hS
    have htx : (⟨#[]⟩ : ByteArray).size ≤ 4 := by decide
    clear hS HQR q0 q1 q2 q3 qf2
    generalize w4.setCell ⟨w2.heap.size, 2, none⟩ (.int .i64 nu) = wq at *
    refine (src_n _ base g (b + 8) _ HS.out (by have := HB.out; omega) (by omega) (by omega)).mono ?_
    rintro e w5 ⟨x, rfl, hx0, hx1, hs5, hg5⟩
    have HS5 := Lib.hid hs5
    have R5 := R.only hg5 hRg
    have Q5 := Q.only hg5 hPg
    have hgo5 := hgo.trans hg5
    have hlt5 : w2.heap.size < w5.heap.size := Q5.lt
    clear hs5 hg5 R Q hgo HS
    by_cases hx : x = 23
    · subst hx
      clear hx0 hx1
      go_wp2_with fail
      refine (src_word _ base g w5.heap.size (b + 9) 6 17 _ 9 (0, 0) ((HS5.out.more (by omega)).alloc _) (by have := HB.out; omega) (heap_alloc_new w5 _) (by have := src_lt HS5.out; omega) rfl (by omega) (by omega) rfl).mono ?_
      rintro e w6 ⟨nm2, rfl, hnm2, hs6, hg6⟩
      have HS6 := Lib.hid hs6
      have R6 := (R5.alloc _).only hg6 hRg
      have Q6 := (Q5.alloc _).only hg6 hPg
      have hgo6 := (only_alloc hgo5 _).trans hg6
      clear hs6 hg6 R5 Q5 hgo5 HS5
      go_wp2_with fail
      refine (src_n _ base g (b + 10) _ (HS6.out.more (by omega)) (by have := HB.out; omega) (by omega) (by omega)).mono ?_
      rintro e w7 ⟨y, rfl, hy0, hy1, hs7, hg7⟩
      have HS7 := Lib.hid hs7
      have R7 := R6.only hg7 hRg
      have Q7 := Q6.only hg7 hPg
      have hgo7 := hgo6.trans hg7
      clear hs7 hg7 R6 Q6 hgo6 HS6
      obtain ⟨q0, q1, q2, q3⟩ := Q7.cells
      obtain ⟨r0, r1, r2, r3⟩ := R7.cells
      have rf0 := R7.frozen 0
      have rf1 := R7.frozen 1
      have rf2 := R7.frozen 2
      have rf3 := R7.frozen 3
      have qf0 := Q7.frozen 0
      have qf2 := Q7.frozen 2
      go_wp2_with fail
      have F := four_set ((R7.far (q := ⟨w2.heap.size, 0, none⟩) (by show w.heap.size ≠ w2.heap.size; omega) (.string nm2)).far (q := ⟨w2.heap.size, 2, none⟩) (by show w.heap.size ≠ w2.heap.size; omega) (.int .i64 y)) nm2 1 y ⟨#[]⟩
      have hgf := four_only (only_setCell (p := ⟨w2.heap.size, 2, none⟩) (only_setCell (p := ⟨w2.heap.size, 0, none⟩) hgo7 (.inr (Nat.le_of_lt hlt2)) (.string nm2)) (.inr (Nat.le_of_lt hlt2)) (.int .i64 y)) hRg2 nm2 1 y ⟨#[]⟩
      have HSF := Lib.hid (four_src ((HS7.out.setCell (p := ⟨w2.heap.size, 0, none⟩) (by show base ≤ w2.heap.size; omega) hPg (.string nm2)).setCell (p := ⟨w2.heap.size, 2, none⟩) (by show base ≤ w2.heap.size; omega) hPg (.int .i64 y)) hbR hRg nm2 1 y ⟨#[]⟩)
      clear q0 q1 q2 q3 r0 r1 r2 r3 rf0 rf1 rf2 rf3 qf0 qf2 R7 Q7 hgo7 HS7
      generalize (((((w7.setCell ⟨w2.heap.size, 0, none⟩ (.string nm2)).setCell ⟨w2.heap.size, 2, none⟩ (.int .i64 y)).setCell ⟨w.heap.size, 0, none⟩ (.string nm2)).setCell ⟨w.heap.size, 1, none⟩ (.int .i64 1)).setCell ⟨w.heap.size, 2, none⟩ (.int .i64 y)).setCell ⟨w.heap.size, 3, none⟩ (.string ⟨#[]⟩) = wf at *
      obtain ⟨f0, f1, f2, f3⟩ := F.cells
      refine bodyPost_ret (v := pairV nm2 1 y ⟨#[]⟩) ?_ rfl ?_
      · simp [results, Tryd.results11, go_sem, f0, f1, f2, f3]
      · exact ⟨nm2, 1, y, ⟨#[]⟩, rfl, by omega, by omega, by omega, by omega, by omega, htx, HSF.out.more (by omega), hgf⟩
    · have hxb : (x == 23) = false := by simp [hx]
      obtain ⟨q0, q1, q2, q3⟩ := Q5.cells
      obtain ⟨r0, r1, r2, r3⟩ := R5.cells
      have rf0 := R5.frozen 0
      have rf1 := R5.frozen 1
      have rf2 := R5.frozen 2
      have rf3 := R5.frozen 3
      clear hx
      go_wp2_with fail
      have F := four_set R5 nm 1 nu ⟨#[]⟩
      have hgf := four_only hgo5 hRg2 nm 1 nu ⟨#[]⟩
      have HSF := Lib.hid (four_src HS5.out hbR hRg nm 1 nu ⟨#[]⟩)
      clear q0 q1 q2 q3 r0 r1 r2 r3 rf0 rf1 rf2 rf3 R5 Q5 hgo5 HS5
      generalize (((w5.setCell ⟨w.heap.size, 0, none⟩ (.string nm)).setCell ⟨w.heap.size, 1, none⟩ (.int .i64 1)).setCell ⟨w.heap.size, 2, none⟩ (.int .i64 nu)).setCell ⟨w.heap.size, 3, none⟩ (.string ⟨#[]⟩) = wf at *
      obtain ⟨f0, f1, f2, f3⟩ := F.cells
      refine bodyPost_ret (v := pairV nm 1 nu ⟨#[]⟩) ?_ rfl ?_
      · simp [results, Tryd.results11, go_sem, f0, f1, f2, f3]
      · exact ⟨nm, 1, nu, ⟨#[]⟩, rfl, by omega, by omega, by omega, by omega, by omega, htx, HSF.out.more (by omega), hgf⟩
  · go_wp2_with fail
    refine (src_text _ base g (b + 2) ((HS2.out.alloc _).more (by omega)) (by have := HB.out; omega)).mono ?_
    rintro e w4 ⟨tx, rfl, htx, hs4, hg4⟩
    have HS4 := Lib.hid hs4
    have R4 := (R2.alloc _).only hg4 hRg
    have Q4 : PBlk w4 w2.heap.size nm 2 0 ⟨#[]⟩ := PBlk.only (w := w2.alloc _) (heap_alloc_new w2 _) hg4 hPg
    have hgo4 := (only_alloc hgo2 _).trans hg4
    clear hs4 hg4 R2 hgo2 HS2
    obtain ⟨q0, q1, q2, q3⟩ := Q4.cells
    have qf3 := Q4.frozen 3
    have HS := Lib.hid ((HS4.out.setCell (p := ⟨w2.heap.size, 3, none⟩) (by show base ≤ w2.heap.size; omega) hPg (.string tx)).more (show b + 2 + 5 ≤ b + 8 by omega))
    have R := R4.far (q := ⟨w2.heap.size, 3, none⟩) (by show w.heap.size ≠ w2.heap.size; omega) (.string tx)
    have Q : PBlk (w4.setCell ⟨w2.heap.size, 3, none⟩ (.string tx)) w2.heap.size nm 2 0 tx := Q4.set 3 (.string tx)
    have hgo := only_setCell (p := ⟨w2.heap.size, 3, none⟩) hgo4 (.inr (Nat.le_of_lt hlt2)) (.string tx)
    have HQR := Lib.hid (And.intro HS.out (And.intro R (And.intro Q hgo)))
    clear R Q hgo HS R4 Q4 hgo4 HS4
    go_wp2_with fail
    obtain ⟨hS, R, Q, hgo⟩ := HQR.out
    have HS := Lib.hid hS
    clear hS HQR q0 q1 q2 q3 qf3
    generalize w4.setCell ⟨w2.heap.size, 3, none⟩ (.string tx) = wq at *
    refine (src_n _ base g (b + 8) _ HS.out (by have := HB.out; omega) (by omega) (by omega)).mono ?_
    rintro e w5 ⟨x, rfl, hx0, hx1, hs5, hg5⟩
    have HS5 := Lib.hid hs5
    have R5 := R.only hg5 hRg
    have Q5 := Q.only hg5 hPg
    have hgo5 := hgo.trans hg5
    have hlt5 : w2.heap.size < w5.heap.size := Q5.lt
    clear hs5 hg5 R Q hgo HS
    by_cases hx : x = 23
    · subst hx
      clear hx0 hx1
      go_wp2_with fail
      refine (src_word _ base g w5.heap.size (b + 9) 6 17 _ 9 (0, 0) ((HS5.out.more (by omega)).alloc _) (by have := HB.out; omega) (heap_alloc_new w5 _) (by have := src_lt HS5.out; omega) rfl (by omega) (by omega) rfl).mono ?_
      rintro e w6 ⟨nm2, rfl, hnm2, hs6, hg6⟩
      have HS6 := Lib.hid hs6
      have R6 := (R5.alloc _).only hg6 hRg
      have Q6 := (Q5.alloc _).only hg6 hPg
      have hgo6 := (only_alloc hgo5 _).trans hg6
      clear hs6 hg6 R5 Q5 hgo5 HS5
      go_wp2_with fail
      refine (src_n _ base g (b + 10) _ (HS6.out.more (by omega)) (by have := HB.out; omega) (by omega) (by omega)).mono ?_
      rintro e w7 ⟨y, rfl, hy0, hy1, hs7, hg7⟩
      have HS7 := Lib.hid hs7
      have R7 := R6.only hg7 hRg
      have Q7 := Q6.only hg7 hPg
      have hgo7 := hgo6.trans hg7
      clear hs7 hg7 R6 Q6 hgo6 HS6
      obtain ⟨q0, q1, q2, q3⟩ := Q7.cells
      obtain ⟨r0, r1, r2, r3⟩ := R7.cells
      have rf0 := R7.frozen 0
      have rf1 := R7.frozen 1
      have rf2 := R7.frozen 2
      have rf3 := R7.frozen 3
      have qf0 := Q7.frozen 0
      have qf2 := Q7.frozen 2
      go_wp2_with fail
      have F := four_set ((R7.far (q := ⟨w2.heap.size, 0, none⟩) (by show w.heap.size ≠ w2.heap.size; omega) (.string nm2)).far (q := ⟨w2.heap.size, 2, none⟩) (by show w.heap.size ≠ w2.heap.size; omega) (.int .i64 y)) nm2 2 y tx
      have hgf := four_only (only_setCell (p := ⟨w2.heap.size, 2, none⟩) (only_setCell (p := ⟨w2.heap.size, 0, none⟩) hgo7 (.inr (Nat.le_of_lt hlt2)) (.string nm2)) (.inr (Nat.le_of_lt hlt2)) (.int .i64 y)) hRg2 nm2 2 y tx
      have HSF := Lib.hid (four_src ((HS7.out.setCell (p := ⟨w2.heap.size, 0, none⟩) (by show base ≤ w2.heap.size; omega) hPg (.string nm2)).setCell (p := ⟨w2.heap.size, 2, none⟩) (by show base ≤ w2.heap.size; omega) hPg (.int .i64 y)) hbR hRg nm2 2 y tx)
      clear q0 q1 q2 q3 r0 r1 r2 r3 rf0 rf1 rf2 rf3 qf0 qf2 R7 Q7 hgo7 HS7
      generalize (((((w7.setCell ⟨w2.heap.size, 0, none⟩ (.string nm2)).setCell ⟨w2.heap.size, 2, none⟩ (.int .i64 y)).setCell ⟨w.heap.size, 0, none⟩ (.string nm2)).setCell ⟨w.heap.size, 1, none⟩ (.int .i64 2)).setCell ⟨w.heap.size, 2, none⟩ (.int .i64 y)).setCell ⟨w.heap.size, 3, none⟩ (.string tx) = wf at *
      obtain ⟨f0, f1, f2, f3⟩ := F.cells
      refine bodyPost_ret (v := pairV nm2 2 y tx) ?_ rfl ?_
      · simp [results, Tryd.results11, go_sem, f0, f1, f2, f3]
      · exact ⟨nm2, 2, y, tx, rfl, by omega, by omega, by omega, by omega, by omega, htx, HSF.out.more (by omega), hgf⟩
    · have hxb : (x == 23) = false := by simp [hx]
      obtain ⟨q0, q1, q2, q3⟩ := Q5.cells
      obtain ⟨r0, r1, r2, r3⟩ := R5.cells
      have rf0 := R5.frozen 0
      have rf1 := R5.frozen 1
      have rf2 := R5.frozen 2
      have rf3 := R5.frozen 3
      clear hx
      go_wp2_with fail
      have F := four_set R5 nm 2 0 tx
      have hgf := four_only hgo5 hRg2 nm 2 0 tx
      have HSF := Lib.hid (four_src HS5.out hbR hRg nm 2 0 tx)
      clear q0 q1 q2 q3 r0 r1 r2 r3 rf0 rf1 rf2 rf3 R5 Q5 hgo5 HS5
      generalize (((w5.setCell ⟨w.heap.size, 0, none⟩ (.string nm)).setCell ⟨w.heap.size, 1, none⟩ (.int .i64 2)).setCell ⟨w.heap.size, 2, none⟩ (.int .i64 0)).setCell ⟨w.heap.size, 3, none⟩ (.string tx) = wf at *
      obtain ⟨f0, f1, f2, f3⟩ := F.cells
      refine bodyPost_ret (v := pairV nm 2 0 tx) ?_ rfl ?_
      · simp [results, Tryd.results11, go_sem, f0, f1, f2, f3]
      · exact ⟨nm, 2, 0, tx, rfl, by omega, by omega, by omega, by omega, by omega, htx, HSF.out.more (by omega), hgf⟩
  · go_wp2_with fail
    have HS := Lib.hid ((HS2.out.alloc (pairO' nm 3 0 ⟨#[]⟩)).more (show b + 1 + 1 ≤ b + 8 by omega))
    have R := R2.alloc (pairO' nm 3 0 ⟨#[]⟩)
    have Q : PBlk (w2.alloc (pairO' nm 3 0 ⟨#[]⟩)) w2.heap.size nm 3 0 ⟨#[]⟩ := heap_alloc_new w2 _
    have hgo := only_alloc hgo2 (pairO' nm 3 0 ⟨#[]⟩)
    have htx : (⟨#[]⟩ : ByteArray).size ≤ 4 := by decide
    clear HS2 R2 hgo2
    refine (src_n _ base g (b + 8) _ HS.out (by have := HB.out; omega) (by omega) (by omega)).mono ?_
    rintro e w5 ⟨x, rfl, hx0, hx1, hs5, hg5⟩
    have HS5 := Lib.hid hs5
    have R5 := R.only hg5 hRg
    have Q5 := Q.only hg5 hPg
    have hgo5 := hgo.trans hg5
    have hlt5 : w2.heap.size < w5.heap.size := Q5.lt
    clear hs5 hg5 R Q hgo HS
    by_cases hx : x = 23
    · subst hx
      clear hx0 hx1
      go_wp2_with fail
      refine (src_word _ base g w5.heap.size (b + 9) 6 17 _ 9 (0, 0) ((HS5.out.more (by omega)).alloc _) (by have := HB.out; omega) (heap_alloc_new w5 _) (by have := src_lt HS5.out; omega) rfl (by omega) (by omega) rfl).mono ?_
      rintro e w6 ⟨nm2, rfl, hnm2, hs6, hg6⟩
      have HS6 := Lib.hid hs6
      have R6 := (R5.alloc _).only hg6 hRg
      have Q6 := (Q5.alloc _).only hg6 hPg
      have hgo6 := (only_alloc hgo5 _).trans hg6
      clear hs6 hg6 R5 Q5 hgo5 HS5
      go_wp2_with fail
      refine (src_n _ base g (b + 10) _ (HS6.out.more (by omega)) (by have := HB.out; omega) (by omega) (by omega)).mono ?_
      rintro e w7 ⟨y, rfl, hy0, hy1, hs7, hg7⟩
      have HS7 := Lib.hid hs7
      have R7 := R6.only hg7 hRg
      have Q7 := Q6.only hg7 hPg
      have hgo7 := hgo6.trans hg7
      clear hs7 hg7 R6 Q6 hgo6 HS6
      obtain ⟨q0, q1, q2, q3⟩ := Q7.cells
      obtain ⟨r0, r1, r2, r3⟩ := R7.cells
      have rf0 := R7.frozen 0
      have rf1 := R7.frozen 1
      have rf2 := R7.frozen 2
      have rf3 := R7.frozen 3
      have qf0 := Q7.frozen 0
      have qf2 := Q7.frozen 2
      go_wp2_with fail
      have F := four_set ((R7.far (q := ⟨w2.heap.size, 0, none⟩) (by show w.heap.size ≠ w2.heap.size; omega) (.string nm2)).far (q := ⟨w2.heap.size, 2, none⟩) (by show w.heap.size ≠ w2.heap.size; omega) (.int .i64 y)) nm2 3 y ⟨#[]⟩
      have hgf := four_only (only_setCell (p := ⟨w2.heap.size, 2, none⟩) (only_setCell (p := ⟨w2.heap.size, 0, none⟩) hgo7 (.inr (Nat.le_of_lt hlt2)) (.string nm2)) (.inr (Nat.le_of_lt hlt2)) (.int .i64 y)) hRg2 nm2 3 y ⟨#[]⟩
      have HSF := Lib.hid (four_src ((HS7.out.setCell (p := ⟨w2.heap.size, 0, none⟩) (by show base ≤ w2.heap.size; omega) hPg (.string nm2)).setCell (p := ⟨w2.heap.size, 2, none⟩) (by show base ≤ w2.heap.size; omega) hPg (.int .i64 y)) hbR hRg nm2 3 y ⟨#[]⟩)
      clear q0 q1 q2 q3 r0 r1 r2 r3 rf0 rf1 rf2 rf3 qf0 qf2 R7 Q7 hgo7 HS7
      generalize (((((w7.setCell ⟨w2.heap.size, 0, none⟩ (.string nm2)).setCell ⟨w2.heap.size, 2, none⟩ (.int .i64 y)).setCell ⟨w.heap.size, 0, none⟩ (.string nm2)).setCell ⟨w.heap.size, 1, none⟩ (.int .i64 3)).setCell ⟨w.heap.size, 2, none⟩ (.int .i64 y)).setCell ⟨w.heap.size, 3, none⟩ (.string ⟨#[]⟩) = wf at *
      obtain ⟨f0, f1, f2, f3⟩ := F.cells
      refine bodyPost_ret (v := pairV nm2 3 y ⟨#[]⟩) ?_ rfl ?_
      · simp [results, Tryd.results11, go_sem, f0, f1, f2, f3]
      · exact ⟨nm2, 3, y, ⟨#[]⟩, rfl, by omega, by omega, by omega, by omega, by omega, htx, HSF.out.more (by omega), hgf⟩
    · have hxb : (x == 23) = false := by simp [hx]
      obtain ⟨q0, q1, q2, q3⟩ := Q5.cells
      obtain ⟨r0, r1, r2, r3⟩ := R5.cells
      have rf0 := R5.frozen 0
      have rf1 := R5.frozen 1
      have rf2 := R5.frozen 2
      have rf3 := R5.frozen 3
      clear hx
      go_wp2_with fail
      have F := four_set R5 nm 3 0 ⟨#[]⟩
      have hgf := four_only hgo5 hRg2 nm 3 0 ⟨#[]⟩
      have HSF := Lib.hid (four_src HS5.out hbR hRg nm 3 0 ⟨#[]⟩)
      clear q0 q1 q2 q3 r0 r1 r2 r3 rf0 rf1 rf2 rf3 R5 Q5 hgo5 HS5
      generalize (((w5.setCell ⟨w.heap.size, 0, none⟩ (.string nm)).setCell ⟨w.heap.size, 1, none⟩ (.int .i64 3)).setCell ⟨w.heap.size, 2, none⟩ (.int .i64 0)).setCell ⟨w.heap.size, 3, none⟩ (.string ⟨#[]⟩) = wf at *
      obtain ⟨f0, f1, f2, f3⟩ := F.cells
      refine bodyPost_ret (v := pairV nm 3 0 ⟨#[]⟩) ?_ rfl ?_
      · simp [results, Tryd.results11, go_sem, f0, f1, f2, f3]
      · exact ⟨nm, 3, 0, ⟨#[]⟩, rfl, by omega, by omega, by omega, by omega, by omega, htx, HSF.out.more (by omega), hgf⟩
end Go.Proofs.YtollifnnpihfdaaDoor

/- Format, of the program and of the reference, returns fmtS and checkE. -/
import Derived.Test.YthidojkckhjciaaDoorCheck
import Derived.Test.YthidojkckhjciaaDoorNumber
import Derived.Test.YthidojkckhjciaaDoorUnquotes
import Derived.Test.YthidojkckhjciaaDoorLimits
namespace Go.Proofs.YthidojkckhjciaaDoor
open Go.RowKit
def textS (kd nu : Int) (tx : ByteArray) : ByteArray := if kd = 1 then numS nu else if kd = 2 then quoteS tx else ⟨#[40, 110, 117, 108, 108, 41]⟩
def fmtS (nm : ByteArray) (kd nu : Int) (tx : ByteArray) : ByteArray := if checkE nm kd nu tx = 0 then nm ++ ⟨#[61]⟩ ++ textS kd nu tx else ⟨#[]⟩
theorem numS_size (n : Int) (h0 : -9223372036854775808 ≤ n) (h1 : n ≤ 9223372036854775807) : (numS n).size ≤ 20 := by
  have e : (numS n).size = (Lib.itoa n).length := by show (Lib.itoa n).toArray.size = _; simp
  rw [e]; unfold Lib.itoa; split
  · have := dec_len n.natAbs (by omega)
    simp; omega
  · have := dec_len n.toNat (by omega)
    omega
theorem checkE_zero {nm : ByteArray} {kd nu : Int} {tx : ByteArray} (h : checkE nm kd nu tx = 0) : nameB nm.data.toList = true ∧ ¬ (kd < 1 ∨ 3 < kd ∨ (kd ≠ 1 ∧ nu ≠ 0) ∨ (kd ≠ 2 ∧ tx.size ≠ 0)) ∧ tx.size ≤ 640 := by
  unfold checkE at h
  split at h
  · cases h
  · rename_i hn
    split at h
    · cases h
    · rename_i hk
      split at h
      · cases h
      · rename_i hl
        exact ⟨by simpa using hn, hk, by omega⟩
theorem name_size {s : ByteArray} (h : nameB s.data.toList = true) : s.size ≤ 16 ∧ 0 < s.size := by
  by_cases h0 : 0 < s.size
  · rw [name_eq s h0] at h
    simp at h
    exact ⟨h.1.1, h0⟩
  · rw [nameB_empty s (by omega)] at h; cases h
theorem null_eq (nm : ByteArray) : nm ++ ⟨#[61, 40, 110, 117, 108, 108, 41]⟩ = nm ++ ⟨#[61]⟩ ++ ⟨#[40, 110, 117, 108, 108, 41]⟩ := by
  rw [ByteArray.append_assoc]; rfl
theorem below_box {w w1 : World} {o : Obj} (hb : Below (w.alloc o).heap.size (w.alloc o) w1) : Below (w.heap.size + 1) (w.alloc o) w1 := by simpa using hb
abbrev FmtPost (nm : ByteArray) (kd nu : Int) (tx : ByteArray) (w : World) (e : Ending) (w' : World) : Prop := e = .returned (.tuple #[.string (fmtS nm kd nu tx), .int .i64 (checkE nm kd nu tx)]) ∧ Below w.heap.size w w'
attribute [local irreducible] quoteS numS checkE fmtS
set_option maxHeartbeats 1000000 in
theorem vformat_bad (nm : ByteArray) (kd nu : Int) (tx : ByteArray) (w : World) (hm : nm.size ≤ maxLen) (ht : tx.size ≤ maxLen) (hc : checkE nm kd nu tx ≠ 0) :
    Calls Tryd.prog 16 #[pairV nm kd nu tx] w (FmtPost nm kd nu tx w) := by
  have HF := Lib.hid (show fmtS nm kd nu tx = ⟨#[]⟩ by unfold fmtS; rw [if_neg hc])
  have hb0 : (checkE nm kd nu tx != 0) = true := by simpa using hc
  clear hc
  go_enter Tryd.func16, Tryd.ntmps16
  go_wp2_with fail
  refine (vcheck nm kd nu tx _ hm ht).mono ?_
  rintro e w1 ⟨rfl, hb⟩
  go_wp2_with fail
  go_ret2
  exact ⟨tup HF.out.symm rfl, below_lit (below_box hb)⟩
set_option maxHeartbeats 1000000 in
theorem vformat_ok (nm : ByteArray) (kd nu : Int) (tx : ByteArray) (w : World) (hm : nm.size ≤ maxLen) (ht : tx.size ≤ maxLen) (h0 : -9223372036854775808 ≤ nu) (h1 : nu ≤ 9223372036854775807) (hT : Tab w) (hP : Pow w) (hc : checkE nm kd nu tx = 0) :
    Calls Tryd.prog 16 #[pairV nm kd nu tx] w (FmtPost nm kd nu tx w) := by
  have HF := Lib.hid (show fmtS nm kd nu tx = nm ++ ⟨#[61]⟩ ++ textS kd nu tx by unfold fmtS; rw [if_pos hc])
  have HC := Lib.hid hc
  obtain ⟨c1, c2, c3⟩ := checkE_zero hc
  have c4 := (name_size c1).1
  have hcs : kd = 1 ∨ kd = 2 ∨ kd = 3 := by omega
  have hvc := Lib.hid (vcheck nm kd nu tx · hm ht)
  rw [hc] at hvc
  clear c1 hc hm ht
  rcases hcs with hk | hk | hk
  · subst hk
    have HX := Lib.hid (show textS 1 nu tx = numS nu from rfl)
    have hz := numS_size nu h0 h1
    clear c2
    go_enter Tryd.func16, Tryd.ntmps16
    go_wp2_with fail
    refine (hvc.out _).mono ?_
    rintro e w1 ⟨rfl, hb⟩
    have hb' := below_box hb
    have l0 := lit_cells hb' 0
    have l1 := lit_cells hb' 1
    have l2 := lit_cells hb' 2
    have hbw := below_lit hb'
    have hP1 := hP.below hbw (Nat.le_refl _)
    have hlt : w.heap.size < w1.heap.size := by have := hb'.size; simp at this; omega
    clear hb hb'
    go_wp2_with fail
    refine (vitoa nu h0 h1 _ hP1).mono ?_
    rintro e w2 ⟨rfl, hb2⟩
    have l3 := (hb2.cell (p := ⟨w.heap.size, 0, none⟩) hlt).trans l0
    clear l0 l1 l2
    go_wp2_with fail
    go_ret2
    exact ⟨tup (by rw [HF.out, HX.out]) HC.out.symm, below_then hbw hb2⟩
  · subst hk
    have HX := Lib.hid (show textS 2 nu tx = quoteS tx from rfl)
    have HE := Lib.hid (quoteE_zero.2 c3)
    have hz : (quoteS tx).size ≤ 1281 := by rcases quoteS_size tx c3 with h | h <;> omega
    clear c2
    go_enter Tryd.func16, Tryd.ntmps16
    go_wp2_with fail
    refine (hvc.out _).mono ?_
    rintro e w1 ⟨rfl, hb⟩
    have hb' := below_box hb
    have l0 := lit_cells hb' 0
    have l1 := lit_cells hb' 1
    have l2 := lit_cells hb' 3
    have hbw := below_lit hb'
    have hT1 := hT.below hbw (Nat.le_refl _)
    have hlt : w.heap.size < w1.heap.size := by have := hb'.size; simp at this; omega
    clear hb hb'
    go_wp2_with fail
    refine (vquote _ _ (by unfold maxLen; omega) hT1).mono ?_
    rintro e w2 ⟨rfl, hb2⟩
    rw [HE.out]
    have l3 := (hb2.cell (p := ⟨w.heap.size, 0, none⟩) hlt).trans l0
    clear l0 l1 l2
    go_wp2_with fail
    go_ret2
    exact ⟨tup (by rw [HF.out, HX.out]) HC.out.symm, below_then hbw hb2⟩
  · subst hk
    have HX := Lib.hid (show textS 3 nu tx = ⟨#[40, 110, 117, 108, 108, 41]⟩ from rfl)
    clear c2
    go_enter Tryd.func16, Tryd.ntmps16
    go_wp2_with fail
    refine (hvc.out _).mono ?_
    rintro e w1 ⟨rfl, hb⟩
    have hb' := below_box hb
    have l0 := lit_cells hb' 0
    have l1 := lit_cells hb' 1
    have hbw := below_lit hb'
    clear hb hb'
    go_wp2_with fail
    go_ret2
    exact ⟨tup (by rw [HF.out, HX.out]) HC.out.symm, hbw⟩
theorem vformat (nm : ByteArray) (kd nu : Int) (tx : ByteArray) (w : World) (hm : nm.size ≤ maxLen) (ht : tx.size ≤ maxLen) (h0 : -9223372036854775808 ≤ nu) (h1 : nu ≤ 9223372036854775807) (hT : Tab w) (hP : Pow w) :
    Calls Tryd.prog 16 #[pairV nm kd nu tx] w (FmtPost nm kd nu tx w) := by
  by_cases hc : checkE nm kd nu tx = 0
  · exact vformat_ok nm kd nu tx w hm ht h0 h1 hT hP hc
  · exact vformat_bad nm kd nu tx w hm ht hc
set_option maxHeartbeats 1000000 in
theorem rformat_bad (nm : ByteArray) (kd nu : Int) (tx : ByteArray) (w : World) (hm : nm.size ≤ maxLen) (ht : tx.size ≤ maxLen) (hc : checkE nm kd nu tx ≠ 0) :
    Calls Tryd.prog 17 #[pairV nm kd nu tx] w (FmtPost nm kd nu tx w) := by
  have HF := Lib.hid (show fmtS nm kd nu tx = ⟨#[]⟩ by unfold fmtS; rw [if_neg hc])
  have hb0 : (checkE nm kd nu tx != 0) = true := by simpa using hc
  clear hc
  go_enter Tryd.func17, Tryd.ntmps17
  go_wp2_with fail
  refine (rcheck nm kd nu tx _ hm ht).mono ?_
  rintro e w1 ⟨rfl, hb⟩
  go_wp2_with fail
  go_ret2
  exact ⟨tup HF.out.symm rfl, below_lit (below_box hb)⟩
theorem rnumber_q (n : Int) (h0 : -9223372036854775808 ≤ n) (h1 : n ≤ 9223372036854775807) (w : World) :
    Calls Tryd.prog 30 #[.int .i64 n] w fun e w' => e = .returned (.string (numS n)) ∧ w' = w := (rnumber n h0 h1 w).mono fun _ _ h => ⟨h.1, h.2.symm⟩
set_option maxHeartbeats 1000000 in
theorem rformat_ok (nm : ByteArray) (kd nu : Int) (tx : ByteArray) (w : World) (hm : nm.size ≤ maxLen) (ht : tx.size ≤ maxLen) (h0 : -9223372036854775808 ≤ nu) (h1 : nu ≤ 9223372036854775807) (hc : checkE nm kd nu tx = 0) :
    Calls Tryd.prog 17 #[pairV nm kd nu tx] w (FmtPost nm kd nu tx w) := by
  have HF := Lib.hid (show fmtS nm kd nu tx = nm ++ ⟨#[61]⟩ ++ textS kd nu tx by unfold fmtS; rw [if_pos hc])
  have HC := Lib.hid hc
  obtain ⟨c1, c2, c3⟩ := checkE_zero hc
  have c4 := (name_size c1).1
  have hcs : kd = 1 ∨ kd = 2 ∨ kd = 3 := by omega
  have hvc := Lib.hid (rcheck nm kd nu tx · hm ht)
  rw [hc] at hvc
  clear c1 hc hm ht
  rcases hcs with hk | hk | hk
  · subst hk
    have HX := Lib.hid (show textS 1 nu tx = numS nu from rfl)
    have hz := numS_size nu h0 h1
    clear c2
    go_enter Tryd.func17, Tryd.ntmps17
    go_wp2_with fail
    refine (hvc.out _).mono ?_
    rintro e w1 ⟨rfl, hb⟩
    have hb' := below_box hb
    have l0 := lit_cells hb' 0
    have l1 := lit_cells hb' 1
    have l2 := lit_cells hb' 2
    have hbw := below_lit hb'
    have hlt : w.heap.size < w1.heap.size := by have := hb'.size; simp at this; omega
    clear hb hb'
    go_wp2_with fail
    go_quiet ((go_at_call 30; exact Calls.quiet_of_same (rnumber_q _ h0 h1 _)))
    clear l0 l1 l2
    go_wp2_with fail
    go_ret2
    exact ⟨tup (by rw [HF.out, HX.out]) HC.out.symm, below_drewN hbw _⟩
  · subst hk
    have HX := Lib.hid (show textS 2 nu tx = quoteS tx from rfl)
    have HE := Lib.hid (quoteE_zero.2 c3)
    have hz : (quoteS tx).size ≤ 1281 := by rcases quoteS_size tx c3 with h | h <;> omega
    clear c2
    go_enter Tryd.func17, Tryd.ntmps17
    go_wp2_with fail
    refine (hvc.out _).mono ?_
    rintro e w1 ⟨rfl, hb⟩
    have hb' := below_box hb
    have l0 := lit_cells hb' 0
    have l1 := lit_cells hb' 1
    have l2 := lit_cells hb' 3
    have hbw := below_lit hb'
    have hlt : w.heap.size < w1.heap.size := by have := hb'.size; simp at this; omega
    clear hb hb'
    go_wp2_with fail
    refine (rquote _ _ (by unfold maxLen; omega)).mono ?_
    rintro e w2 ⟨rfl, hb2⟩
    rw [HE.out]
    have l3 := (hb2.cell (p := ⟨w.heap.size, 0, none⟩) hlt).trans l0
    clear l0 l1 l2
    go_wp2_with fail
    go_ret2
    exact ⟨tup (by rw [HF.out, HX.out]) HC.out.symm, below_then hbw hb2⟩
  · subst hk
    have HX := Lib.hid (show textS 3 nu tx = ⟨#[40, 110, 117, 108, 108, 41]⟩ from rfl)
    clear c2
    go_enter Tryd.func17, Tryd.ntmps17
    go_wp2_with fail
    refine (hvc.out _).mono ?_
    rintro e w1 ⟨rfl, hb⟩
    have hb' := below_box hb
    have l0 := lit_cells hb' 0
    have l1 := lit_cells hb' 1
    have hbw := below_lit hb'
    clear hb hb'
    go_wp2_with fail
    go_ret2
    exact ⟨tup (by rw [HF.out, HX.out, null_eq]) HC.out.symm, hbw⟩
theorem rformat (nm : ByteArray) (kd nu : Int) (tx : ByteArray) (w : World) (hm : nm.size ≤ maxLen) (ht : tx.size ≤ maxLen) (h0 : -9223372036854775808 ≤ nu) (h1 : nu ≤ 9223372036854775807) :
    Calls Tryd.prog 17 #[pairV nm kd nu tx] w (FmtPost nm kd nu tx w) := by
  by_cases hc : checkE nm kd nu tx = 0
  · exact rformat_ok nm kd nu tx w hm ht h0 h1 hc
  · exact rformat_bad nm kd nu tx w hm ht hc
end Go.Proofs.YthidojkckhjciaaDoor

/- The walk of the law ValueDiffer. -/
import Derived.Test.YthidojkckhjciaaDoorFmtInj
import Derived.Test.YthidojkckhjciaaDoorSrcPair
import Derived.Laws.StructEq
namespace Go.Proofs.YthidojkckhjciaaDoor
open Go.RowKit
theorem PBlk.below {w w' : World} {p : Nat} {nm : ByteArray} {kd nu : Int} {tx : ByteArray} (h : PBlk w p nm kd nu tx) (hb : Below w.heap.size w w') : PBlk w' p nm kd nu tx := (hb.block p h.lt).trans h
theorem first_diff {nm nm' : ByteArray} {kd nu kd' nu' : Int} {tx tx' : ByteArray} (h : ¬ (nm = nm' ∧ kd = kd' ∧ nu = nu' ∧ tx = tx')) :
    nm ≠ nm' ∨ (nm = nm' ∧ kd ≠ kd') ∨ (nm = nm' ∧ kd = kd' ∧ nu ≠ nu') ∨ (nm = nm' ∧ kd = kd' ∧ nu = nu' ∧ tx ≠ tx') := by
  by_cases a : nm = nm' <;> by_cases b : kd = kd' <;> by_cases c : nu = nu' <;> by_cases d : tx = tx' <;> simp_all
attribute [local irreducible] checkE fmtS
set_option maxHeartbeats 2000000 in
theorem valueDiffer_walk (w : World) (A : Option Addr) (n c : Nat) (hn : (n : Int) ≤ 9223372036854775807)
    (hl : ∀ k, k < n → ∃ (ad : Addr) (z : Int), A = some ad ∧ ad.block < w.heap.size ∧ w.cell? (ad.add k) = some (.int .i64 z) ∧ -9223372036854775808 ≤ z ∧ z ≤ 9223372036854775807) (hT : Tab w) (hP : Pow w) :
    Calls Tryd.prog 7 #[.slice A n c] w fun e w' => e = .returned (.bool true) ∧ Below w.heap.size w w' := by
  have HL := Lib.hid hl
  have HN := Lib.hid hn
  clear hl hn
  go_enter Tryd.func7, Tryd.ntmps7
  go_wp2_with fail
  refine (src_new w A n c HN.out HL.out).mono ?_
  rintro e w1 ⟨rfl, hs1, hb1⟩
  have HS1 := Lib.hid hs1
  have hlt1 : w.heap.size < w1.heap.size := src_lt hs1
  clear hs1 HL HN
  go_wp2_with fail
  refine (src_pair _ w.heap.size w.heap.size 0 HS1.out (by omega)).mono ?_
  rintro e w2 ⟨nm, kd, nu, tx, rfl, h1, h2, h3, h4, h5, h6, hs2, hg2⟩
  have HS2 := Lib.hid hs2
  have hb2 := below_only hb1 hg2 (by omega) (Nat.le_refl _)
  have hz2 := hg2.size
  clear hs2 hg2 hb1 HS1
  go_wp2_with fail
  refine (src_pair _ w.heap.size w.heap.size (0 + 20) HS2.out (by omega)).mono ?_
  rintro e w3 ⟨nm', kd', nu', tx', rfl, h1', h2', h3', h4', h5', h6', hs3, hg3⟩
  have HS3 := Lib.hid hs3
  have hb3 := below_only hb2 hg3 (by omega) (Nat.le_refl _)
  have hz3 := hg3.size
  clear hs3 hg3 hb2 HS2
  go_wp2_with fail
  refine (src_n _ w.heap.size w.heap.size (0 + 20 + 20) _ ((HS3.out.alloc _).alloc _) (by omega) (by omega) (by omega)).mono ?_
  rintro e w4 ⟨x, rfl, hx0, hx1, hs4, hg4⟩
  have P4 : PBlk w4 w3.heap.size nm kd nu tx := PBlk.only (PBlk.alloc (w := w3.alloc _) (heap_alloc_new w3 _) _) hg4 (by omega)
  have Q4 : PBlk w4 (w3.heap.size + 1) nm' kd' nu' tx' := PBlk.only (w := (w3.alloc _).alloc _) (heap_new_at (by simp)) hg4 (by omega)
  have hb4 : Below w.heap.size w w4 := below_only ((hb3.alloc (by omega) _).alloc (by simp; omega) _) hg4 (by simp; omega) (Nat.le_refl _)
  have hz4 : w3.heap.size + 1 < w4.heap.size := Q4.lt
  clear hs4 hg4 hb3 HS3
  by_cases hx : x = 0
  · subst hx
    obtain ⟨q0, q1, q2, q3⟩ := Q4.cells
    obtain ⟨p0, p1, p2, p3⟩ := P4.cells
    have qf := Q4.frozen 0
    have HQ := Lib.hid (And.intro (show PBlk (w4.setCell ⟨w3.heap.size + 1, 0, none⟩ (.string nm)) (w3.heap.size + 1) nm kd' nu' tx' from Q4.set 0 (.string nm)) (And.intro (P4.far (q := ⟨w3.heap.size + 1, 0, none⟩) (by show w3.heap.size ≠ w3.heap.size + 1; omega) (.string nm)) (hb4.setCell (p := ⟨w3.heap.size + 1, 0, none⟩) (by show w.heap.size ≤ w3.heap.size + 1; omega) (.string nm))))
    have hzz : (w4.setCell ⟨w3.heap.size + 1, 0, none⟩ (.string nm)).heap.size = w4.heap.size := by simp
    have HZZ := Lib.hid hzz
    clear Q4 P4 hb4 hzz
    go_wp2_with fail
    obtain ⟨Q, Pb, hbq⟩ := HQ.out
    have hzq : w.heap.size ≤ (w4.setCell ⟨w3.heap.size + 1, 0, none⟩ (.string nm)).heap.size := by rw [HZZ.out]; omega
    have hzq2 : w3.heap.size + 1 < (w4.setCell ⟨w3.heap.size + 1, 0, none⟩ (.string nm)).heap.size := by rw [HZZ.out]; omega
    clear q0 q1 q2 q3 p0 p1 p2 p3 qf HQ HZZ
    generalize w4.setCell ⟨w3.heap.size + 1, 0, none⟩ (.string nm) = wq at *
    refine (vformat nm kd nu tx _ (by unfold maxLen; omega) (by unfold maxLen; omega) h4 h5 (hT.below hbq (Nat.le_refl _)) (hP.below hbq (Nat.le_refl _))).mono ?_
    rintro e w5 ⟨rfl, hb5⟩
    have Q5 := Q.below hb5
    have P5 := Pb.below hb5
    have hbw5 := hbq.trans (hb5.mono hzq)
    have hz5 := hb5.size
    obtain ⟨q0, q1, q2, q3⟩ := Q5.cells
    clear Q Pb hb5 hbq
    go_wp2_with fail
    refine (vformat nm kd' nu' tx' _ (by unfold maxLen; omega) (by unfold maxLen; omega) h4' h5' (hT.below hbw5 (Nat.le_refl _)) (hP.below hbw5 (Nat.le_refl _))).mono ?_
    rintro e w6 ⟨rfl, hb6⟩
    have Q6 := Q5.below hb6
    have P6 := P5.below hb6
    have hbw6 := hbw5.trans (hb6.mono (by omega))
    clear Q5 P5 hb6 hbw5 q0 q1 q2 q3
    have hT6 := hT.below hbw6 (Nat.le_refl _)
    by_cases ca : checkE nm kd nu tx = 0
    · by_cases cb : checkE nm kd' nu' tx' = 0
      · rw [ca, cb]
        obtain ⟨q0, q1, q2, q3⟩ := Q6.cells
        obtain ⟨p0, p1, p2, p3⟩ := P6.cells
        by_cases he : nm = nm ∧ kd = kd' ∧ nu = nu' ∧ tx = tx'
        · obtain ⟨e1, e2, e3, e4⟩ := he
          subst e2 e3 e4
          clear ca cb
          go_wp2_with fail
          refine (awake_true _ hT6).mono ?_
          rintro e w7 ⟨rfl, hb7⟩
          go_wp2_with fail
          go_ret
          exact ⟨rfl, below_then hbw6 hb7⟩
        · have hf := str_ne (fun e => he (fmt_inj ca cb e))
          have hd := first_diff he
          clear ca cb he
          rcases hd with d | ⟨d0, d⟩ | ⟨d0, d1, d⟩ | ⟨d0, d1, d2, d⟩
          · exact absurd rfl d
          · cases d0
            have db : (kd == kd') = false := by simpa using d
            clear d
            go_wp2_with fail
            refine (awake_true _ hT6).mono ?_
            rintro e w7 ⟨rfl, hb7⟩
            go_wp2_with fail
            go_ret
            exact ⟨rfl, below_then hbw6 hb7⟩
          · cases d0
            cases d1
            have db : (nu == nu') = false := by simpa using d
            clear d
            go_wp2_with fail
            refine (awake_true _ hT6).mono ?_
            rintro e w7 ⟨rfl, hb7⟩
            go_wp2_with fail
            go_ret
            exact ⟨rfl, below_then hbw6 hb7⟩
          · cases d0
            cases d1
            cases d2
            have db := str_ne d
            clear d
            go_wp2_with fail
            refine (awake_true _ hT6).mono ?_
            rintro e w7 ⟨rfl, hb7⟩
            go_wp2_with fail
            go_ret
            exact ⟨rfl, below_then hbw6 hb7⟩
      · have hcb : (checkE nm kd' nu' tx' != 0) = true := by simpa using cb
        rw [ca]
        clear cb ca
        go_wp2_with fail
        refine (awake_true _ hT6).mono ?_
        rintro e w7 ⟨rfl, hb7⟩
        go_wp2_with fail
        go_ret
        exact ⟨rfl, below_then hbw6 hb7⟩
    · have hca : (checkE nm kd nu tx != 0) = true := by simpa using ca
      clear ca
      go_wp2_with fail
      refine (awake_true _ hT6).mono ?_
      rintro e w7 ⟨rfl, hb7⟩
      go_wp2_with fail
      go_ret
      exact ⟨rfl, below_then hbw6 hb7⟩
  · have hxb : (x == 0) = false := by simp [hx]
    have Q := Q4
    have Pb := P4
    have hbq := hb4
    have hzq : w.heap.size ≤ w4.heap.size := by omega
    obtain ⟨p0, p1, p2, p3⟩ := P4.cells
    clear Q4 P4 hb4 hx
    go_wp2_with fail
    clear p0 p1 p2 p3
    refine (vformat nm kd nu tx _ (by unfold maxLen; omega) (by unfold maxLen; omega) h4 h5 (hT.below hbq (Nat.le_refl _)) (hP.below hbq (Nat.le_refl _))).mono ?_
    rintro e w5 ⟨rfl, hb5⟩
    have Q5 := Q.below hb5
    have P5 := Pb.below hb5
    have hbw5 := hbq.trans (hb5.mono hzq)
    have hz5 := hb5.size
    obtain ⟨q0, q1, q2, q3⟩ := Q5.cells
    clear Q Pb hb5 hbq
    go_wp2_with fail
    refine (vformat nm' kd' nu' tx' _ (by unfold maxLen; omega) (by unfold maxLen; omega) h4' h5' (hT.below hbw5 (Nat.le_refl _)) (hP.below hbw5 (Nat.le_refl _))).mono ?_
    rintro e w6 ⟨rfl, hb6⟩
    have Q6 := Q5.below hb6
    have P6 := P5.below hb6
    have hbw6 := hbw5.trans (hb6.mono (by omega))
    clear Q5 P5 hb6 hbw5 q0 q1 q2 q3
    have hT6 := hT.below hbw6 (Nat.le_refl _)
    by_cases ca : checkE nm kd nu tx = 0
    · by_cases cb : checkE nm' kd' nu' tx' = 0
      · rw [ca, cb]
        obtain ⟨q0, q1, q2, q3⟩ := Q6.cells
        obtain ⟨p0, p1, p2, p3⟩ := P6.cells
        by_cases he : nm = nm' ∧ kd = kd' ∧ nu = nu' ∧ tx = tx'
        · obtain ⟨e1, e2, e3, e4⟩ := he
          subst e1 e2 e3 e4
          clear ca cb
          go_wp2_with fail
          refine (awake_true _ hT6).mono ?_
          rintro e w7 ⟨rfl, hb7⟩
          go_wp2_with fail
          go_ret
          exact ⟨rfl, below_then hbw6 hb7⟩
        · have hf := str_ne (fun e => he (fmt_inj ca cb e))
          have hd := first_diff he
          clear ca cb he
          rcases hd with d | ⟨d0, d⟩ | ⟨d0, d1, d⟩ | ⟨d0, d1, d2, d⟩
          · have db := str_ne d
            clear d
            go_wp2_with fail
            refine (awake_true _ hT6).mono ?_
            rintro e w7 ⟨rfl, hb7⟩
            go_wp2_with fail
            go_ret
            exact ⟨rfl, below_then hbw6 hb7⟩
          · cases d0
            have db : (kd == kd') = false := by simpa using d
            clear d
            go_wp2_with fail
            refine (awake_true _ hT6).mono ?_
            rintro e w7 ⟨rfl, hb7⟩
            go_wp2_with fail
            go_ret
            exact ⟨rfl, below_then hbw6 hb7⟩
          · cases d0
            cases d1
            have db : (nu == nu') = false := by simpa using d
            clear d
            go_wp2_with fail
            refine (awake_true _ hT6).mono ?_
            rintro e w7 ⟨rfl, hb7⟩
            go_wp2_with fail
            go_ret
            exact ⟨rfl, below_then hbw6 hb7⟩
          · cases d0
            cases d1
            cases d2
            have db := str_ne d
            clear d
            go_wp2_with fail
            refine (awake_true _ hT6).mono ?_
            rintro e w7 ⟨rfl, hb7⟩
            go_wp2_with fail
            go_ret
            exact ⟨rfl, below_then hbw6 hb7⟩
      · have hcb : (checkE nm' kd' nu' tx' != 0) = true := by simpa using cb
        rw [ca]
        clear cb ca
        go_wp2_with fail
        refine (awake_true _ hT6).mono ?_
        rintro e w7 ⟨rfl, hb7⟩
        go_wp2_with fail
        go_ret
        exact ⟨rfl, below_then hbw6 hb7⟩
    · have hca : (checkE nm kd nu tx != 0) = true := by simpa using ca
      clear ca
      go_wp2_with fail
      refine (awake_true _ hT6).mono ?_
      rintro e w7 ⟨rfl, hb7⟩
      go_wp2_with fail
      go_ret
      exact ⟨rfl, below_then hbw6 hb7⟩
end Go.Proofs.YthidojkckhjciaaDoor

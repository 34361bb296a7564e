/- Texts of one proof, laid together. -/
import Derived.Test.YtbbihfafkpniiaaGreatDoorD03
import Derived.Test.YtbbihfafkpniiaaGreatDoorC26
import Derived.Test.YtbbihfafkpniiaaGreatDoorC02
/- The walk of the law RuleBuilt. -/
namespace Go.Proofs.YtbbihfafkpniiaaGreatDoor
open Go.RowKit
theorem pick_any {x1 : Int} (zs : List Int) (h : -9223372036854775808 ≤ x1 ∧ x1 ≤ 9223372036854775807) (hz : zs.all (fun z => decide (-9223372036854775808 ≤ z) && decide (z ≤ 9223372036854775807)) = true) : intsIn ((x1 :: zs).map (Value.int .i64)).toArray (-9223372036854775808) 9223372036854775807 = true := by
  unfold intsIn
  simp only [List.map_cons, List.all_cons, Bool.and_eq_true, decide_eq_true_eq]
  refine ⟨h, ?_⟩
  rw [List.all_eq_true] at hz ⊢
  intro v hv
  obtain ⟨z, hzm, rfl⟩ := List.mem_map.1 hv
  exact hz z hzm
attribute [local irreducible] checkR
set_option maxRecDepth 100000 in
set_option maxHeartbeats 16000000 in
theorem ruleBuilt_walk (w : World) (A : Option Addr) (n c : Nat) (x1 : Int) (x2 : ByteArray) (hn : (n : Int) ≤ 9223372036854775807)
    (hl : ∀ k, k < n → ∃ (ad : Addr) (z : Int), A = some ad ∧ ad.block < w.heap.size ∧ w.cell? (ad.add k) = some (.int .i64 z) ∧ -9223372036854775808 ≤ z ∧ z ≤ 9223372036854775807) (h1 : -9223372036854775808 ≤ x1 ∧ x1 ≤ 9223372036854775807) (h2 : x2.size ≤ maxLen) (hG : RGlob w) (hE : Env w) :
    Calls Tryz.prog 4 #[.slice A n c, .int .i64 x1, .string x2] w fun e w' => e = .returned (.bool true) ∧ Below w.heap.size w w' := by
  have HL := Lib.hid hl
  have HN := Lib.hid hn
  have H1 := Lib.hid h1
  have HGL := Lib.hid (fun (W : World) (h : Below w.heap.size w W) => hG.below h)
  have HAW := Lib.hid (fun (W : World) (h : Below w.heap.size w W) => awakeR W (hG.below h) (hE.below h))
  unfold maxLen at h2
  clear hl hn hG hE h1
  go_enter Tryz.func4, Tryz.ntmps4
  by_cases hs2 : x2.size ≤ 200
  case neg =>
    have hs3 : 200 < x2.size := by omega
    clear hs2
    go_wp2_with fail
    refine (HAW.out _ (Below.refl _ _)).mono ?_
    rintro e w2 ⟨rfl, hb2⟩
    have HB2 := Lib.hid hb2
    clear hb2
    go_wp2_with fail
    go_ret
    exact ⟨rfl, HB2.out⟩
  case pos =>
  have HX2 := Lib.hid hs2
  go_wp2_with fail
  refine (src_new _ A n c HN.out HL.out).mono ?_
  rintro e w1 ⟨rfl, hs1, hb1⟩
  have hlt1 := src_lt hs1
  have HS1 := Lib.hid hs1
  have HB1 := Lib.hid hb1
  clear hs1 hb1
  go_wp2_with fail
  refine (src_rule _ w.heap.size w.heap.size 0 HS1.out (by omega)).mono ?_
  rintro e w2 ⟨r, T, tn, tc, rfl, htn, htl, hm, hown, hs, hg⟩
  have ST0 := Lib.hid (lr_new HB1.out hlt1 hs hg hown hm htn htl)
  have HTL := Lib.hid (show r.ts.length ≤ 3 by omega)
  clear htn htl hm hown hs hg HS1 HB1 hlt1
  go_wp2_with ((with_reducible refine load_blk ?_ 26 (.tmp 8) ?_ ST0.out.cb ?_ _ Tryz.underlying26 ?_ ?_ ?_); (iterate 4 rfl); exact rul_sz _ _)
  refine (lr_agrees ST0.out (HGL.out _ ST0.out.low)).mono ?_
  rintro e w3 ⟨rfl, st⟩
  have ST1 := Lib.hid st
  clear st ST0
  generalize w2.heap.size = gc at *
  go_wp2_with fail
  refine (src_n _ w.heap.size w.heap.size (0 + 200) 8 ST1.out.src (by omega) (by omega) (by omega)).mono ?_
  rintro e w4 ⟨y, rfl, y0, y1, hs, hg⟩
  have ST2 := Lib.hid (ST1.out.step hs hg)
  clear hs hg ST1
  go_upto_block 0 with (fail)
  go_cut [] (fun wx => ∃ q Q qn qc, LRSt w wx gc 500 q (.slice Q qn qc))
  case first =>
    have hy : y = 0 ∨ y = 1 ∨ y = 2 ∨ y = 3 ∨ y = 4 ∨ y = 5 ∨ y = 6 ∨ y = 7 := by omega
    clear y0 y1
    rcases hy with rfl | rfl | rfl | rfl | rfl | rfl | rfl | rfl
    · go_wp2_with fail
      refine (src_pick _ w.heap.size w.heap.size w4.heap.size (0 + 200 + 1) 6 (-9223372036854775808) 9223372036854775807 _ 3 (0, 0) (ST2.out.src.alloc _) (by omega) (heap_alloc_new w4 _) (by have := ST2.out.lt; omega) rfl (by omega) (by omega) (by exact pick_any [0, 1, 2, 5, 6] H1.out (by decide))).mono ?_
      rintro e w5 ⟨v, rfl, _, _, hs, hg⟩
      have st := (ST2.out.alloc (.cells #[.int .i64 x1, .int .i64 0, .int .i64 1, .int .i64 2, .int .i64 5, .int .i64 6] 3)).step hs hg
      have c0 := RulB.c0 st.cb
      have f0 := st.cb.free 0
      have ST5 := Lib.hid (st.li v)
      clear st hs hg
      go_wp2_with fail
      go_meet
      exact ⟨_, _, _, _, ST5.out.more (by omega)⟩
    · go_wp2_with fail
      refine (src_pick _ w.heap.size w.heap.size w4.heap.size (0 + 200 + 1) 3 (-9223372036854775808) 9223372036854775807 _ 3 (0, 0) (ST2.out.src.alloc _) (by omega) (heap_alloc_new w4 _) (by have := ST2.out.lt; omega) rfl (by omega) (by omega) (by exact pick_any [0, 3] H1.out (by decide))).mono ?_
      rintro e w5 ⟨v, rfl, _, _, hs, hg⟩
      have st := (ST2.out.alloc (.cells #[.int .i64 x1, .int .i64 0, .int .i64 3] 3)).step hs hg
      have c1 := RulB.c1 st.cb
      have f1 := st.cb.free 1
      have ST5 := Lib.hid (st.ac v)
      clear st hs hg
      go_wp2_with fail
      go_meet
      exact ⟨_, _, _, _, ST5.out.more (by omega)⟩
    · obtain ⟨k, hk, ek⟩ := wrap_nat x1
      go_wp2_with fail
      refine (src_pick2 _ w.heap.size w.heap.size (0 + 200 + 1) 0 k (by omega) hk ST2.out.src (by omega)).mono ?_
      rintro e w5 ⟨v, rfl, hv, hs, hg⟩
      have st := ST2.out.step hs hg
      have c2 := RulB.c2 st.cb
      have f2 := st.cb.free 2
      have ST5 := Lib.hid (st.ca v hv)
      clear st hs hg ek
      go_wp2_with fail
      go_meet
      exact ⟨_, _, _, _, ST5.out.more (by omega)⟩
    · go_wp2_with fail
      refine (src_pick _ w.heap.size w.heap.size w4.heap.size (0 + 200 + 1) 5 (-9223372036854775808) 9223372036854775807 _ 3 (0, 0) (ST2.out.src.alloc _) (by omega) (heap_alloc_new w4 _) (by have := ST2.out.lt; omega) rfl (by omega) (by omega) (by exact pick_any [0, 15, 16, -1] H1.out (by decide))).mono ?_
      rintro e w5 ⟨v, rfl, _, _, hs, hg⟩
      have st := (ST2.out.alloc (.cells #[.int .i64 x1, .int .i64 0, .int .i64 15, .int .i64 16, .int .i64 (-1)] 3)).step hs hg
      have c6 := RulB.c6 st.cb
      have f6 := st.cb.free 6
      have ST5 := Lib.hid (st.pe v)
      clear st hs hg
      go_wp2_with fail
      go_meet
      exact ⟨_, _, _, _, ST5.out.more (by omega)⟩
    · go_wp2_with fail
      refine (src_word _ w.heap.size w.heap.size w4.heap.size (0 + 200 + 1) 5 200 _ 9 (0, 0) (ST2.out.src.alloc _) (by omega) (heap_alloc_new w4 _) (by have := ST2.out.lt; omega) rfl (by omega) (by omega) (by have := HX2.out; simp [strsLe, this]; decide)).mono ?_
      rintro e w5 ⟨v, rfl, hv, hs, hg⟩
      have st := (ST2.out.alloc (.cells #[.string x2, .string ⟨#[]⟩, .string ⟨#[47]⟩, .string ⟨#[97]⟩, .string ⟨#[47, 97, 47]⟩] 9)).step hs hg
      have c5 := RulB.c5 st.cb
      have f5 := st.cb.free 5
      have ST5 := Lib.hid (st.pa v (by omega))
      clear st hs hg
      go_wp2_with fail
      go_meet
      exact ⟨_, _, _, _, ST5.out.more (by omega)⟩
    · have c7 := RulB.c7 ST2.out.cb
      have f7 := ST2.out.cb.free 7
      have ST5 := Lib.hid (ST2.out.ke x2 (by omega))
      go_wp2_with fail
      go_meet
      exact ⟨_, _, _, _, ST5.out.more (by omega)⟩
    · go_wp2_with fail
      refine (src_pick _ w.heap.size w.heap.size w4.heap.size (0 + 200 + 1) 5 (-9223372036854775808) 9223372036854775807 _ 3 (0, 0) (ST2.out.src.alloc _) (by omega) (heap_alloc_new w4 _) (by have := ST2.out.lt; omega) rfl (by omega) (by omega) (by exact pick_any [0, 1, 2, 3] H1.out (by decide))).mono ?_
      rintro e w5 ⟨v, rfl, _, _, hs, hg⟩
      have st := (ST2.out.alloc (.cells #[.int .i64 x1, .int .i64 0, .int .i64 1, .int .i64 2, .int .i64 3] 3)).step hs hg
      have c4 := RulB.c4 st.cb
      have f4 := st.cb.free 4
      have ST5 := Lib.hid (st.wa v)
      clear st hs hg
      go_wp2_with fail
      go_meet
      exact ⟨_, _, _, _, ST5.out.more (by omega)⟩
    · go_wp2_with fail
      refine (src_range _ w.heap.size w.heap.size (0 + 200 + 1) 6 9 ST2.out.src (by omega) (by omega) (by omega) (by omega)).mono ?_
      rintro e w5 ⟨m, rfl, m0, m1, hs, hg⟩
      obtain ⟨kn, rfl⟩ := Int.eq_ofNat_of_zero_le (show 0 ≤ m by omega)
      have ST5 := Lib.hid (ST2.out.step hs hg)
      clear hs hg
      go_wp2_with fail
      go_loopw [9] (fun i wr => ∃ (k : Nat) (q : Rul) (tv : Value), i = .int .i64 (k : Int) ∧ q.ts.length + k ≤ 12 ∧ LRSt w wr gc (210 + 20 * q.ts.length) q tv) (fun i _ => (intOf i).toNat)
      case atStart => exact ⟨kn, r, _, rfl, by have := HTL.out; omega, ST5.out.more (by omega)⟩
      case round =>
        obtain ⟨k, q, tv, rfl, hlen, hst⟩ := hrel
        clear ST5 m0 m1
        by_cases hk : 0 < k
        · have hk1 : (0 : Int) < (k : Int) := by omega
          have q3 := RulB.c3 hst.cb
          have q0 := RulB.c0 hst.cb
          have hgc := hst.cb.lt
          go_wp2_with fail
          go_region_law
            (first
              | (go_simp; go_at_call 20; refine (src_test _ w.heap.size w.heap.size (210 + 20 * q.ts.length) q.li (by exact hst.src.drew) (by omega)).mono ?_; rintro e w13 ⟨fd, op, nu, tx, ot, rfl, hnu, htx, hs3, hg3⟩; have st3 := hst.drew.step hs3 hg3; have qA := RulB.c3 st3.cb; have qC := RulB.c3 (st3.alloc (.cells (testC fd op nu tx ot) 40)).cb; go_simp)
              | (refine step_append_tst (by rfl) (.tmp 78) (.tmp 83) (by rfl) (w.heap.size + 1) tv q.ts (by rfl) (by exact (st3.alloc _).own) ⟨w13.heap.size, 0, none⟩ ⟨fd, op, nu, tx, ot⟩ (by rfl) (by exact row_newT w13 (testC fd op nu tx ot) 40) (by omega) (by have := st3.lt; simp; omega) ?_; intro v4 w4' own4 hg4 hat4; obtain ⟨g4, c4, hv4⟩ := Joins.ownsRow_form own4 (by simp); subst hv4; obtain ⟨cb4, st4⟩ := (st3.alloc (.cells (testC fd op nu tx ot) 40)).app ⟨fd, op, nu, tx, ot⟩ ⟨hnu, htx⟩ (by omega) hg4 own4 hat4; have qB := RulB.c3 cb4; have fB := cb4.free 3))
          all_goals
            simp only [List.length_append, List.length_cons, List.length_nil, Nat.zero_add] at st4
            have ST4 := Lib.hid st4
            clear q3 q0 qA qB qC fB cb4 own4 st3 st4 hst hg3 hs3 hg4 hat4
            go_wp2_with fail
            go_roundw
            case rel => exact ⟨k - 1, { q with ts := q.ts ++ [⟨fd, op, nu, tx, ot⟩] }, _, by go_num, by show (q.ts ++ [_]).length + (k - 1) ≤ 12; rw [List.length_append, List.length_singleton]; omega, ST4.out.more (by show _ ≤ 210 + 20 * (((q.ts ++ [_]).length : Nat) : Int); rw [List.length_append, List.length_singleton]; omega)⟩
            case measure => simp [intOf]; omega
        · obtain ⟨Q, qc, e, _⟩ := hst.form
          subst e
          have STE := Lib.hid hst
          clear hst
          go_wp2_with fail
          go_meet
          exact ⟨_, _, _, _, STE.out.more (by omega)⟩
  case rest =>
  obtain ⟨q, Q, qn, qc, st⟩ := hcut
  have ST3 := Lib.hid st
  clear st ST2
  go_wp2_with ((with_reducible refine load_blk ?_ 26 (.tmp 8) ?_ ST3.out.cb ?_ _ Tryz.underlying26 ?_ ?_ ?_); (iterate 4 rfl); exact rul_sz _ _)
  refine (lr_agrees ST3.out (HGL.out _ ST3.out.low)).mono ?_
  rintro e w5 ⟨rfl, st⟩
  have ST4 := Lib.hid st
  clear st ST3
  go_wp2_with fail
  refine (HAW.out _ ST4.out.low).mono ?_
  rintro e w6 ⟨rfl, hb6⟩
  have HB6 := Lib.hid (below_then ST4.out.low hb6)
  clear hb6
  go_wp2_with fail
  go_ret
  exact ⟨rfl, HB6.out⟩
end Go.Proofs.YtbbihfafkpniiaaGreatDoor
/- The walk of RuleBuilt, with what the row lists. -/

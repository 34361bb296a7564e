/- awake of layer 19; the walk of the law EmitStamps. -/
import Derived.Test.YtollifnnpihfdaaDoorEmEvent
import Derived.StillTailTactics
import Derived.Great.BuildSlice
import Derived.Great.Walk
namespace Go.Proofs.YtollifnnpihfdaaDoor
open Go.RowKit
abbrev zxL : Array Value := #[.int .i64 0, .int .i64 0, .int .i64 0, .int .i64 0, .int .i64 0, .int .i64 0, .int .i64 0, .int .i64 0, .int .i64 0, .int .i64 0, .int .i64 0, .string ⟨#[]⟩, .string ⟨#[]⟩, .slice none 0 0, .bool false, .int .i64 0, .int .i64 0, .int .i64 0, .int .i64 0, .int .i64 0, .slice none 0 0, .slice none 0 0, .int .i64 0, .slice none 0 0, .int .i64 0]
abbrev awW (w : World) : World := (w.alloc (.cells zxL 55)).setRow w.heap.size cxL
abbrev c47 : Array Value := #[.int .i64 3, .int .i64 0, .int .i64 0, .int .i64 0, .int .i64 0, .slice none 0 0, .slice none 0 0, .int .i64 0, .slice none 0 0, .int .i64 0]
set_option maxRecDepth 100000 in
set_option maxHeartbeats 8000000 in
theorem awake19 (w : World) (hc : Calls10 w) : Calls Tryd.prog 9 #[] w fun e w' => e = .returned (.bool true) ∧ Below w.heap.size w w' := by
  have hb0 : Below w.heap.size w (awW w) := below_row ((Below.refl _ _).alloc (Nat.le_refl _) _) (Nat.le_refl _) _
  have X1 := Lib.hid (show Blk (awW w) w.heap.size 55 cxL from (Blk.new w zxL 55).row cxL)
  have HE := Lib.hid (vevent (awW w) (hc.below hb0 (Nat.le_refl _)))
  have HB0 := Lib.hid hb0
  clear hb0 hc
  go_enter Tryd.func9, Tryd.ntmps9
  go_wp2_with (first
    | (refine wpList_buildTo rfl 47 _ rfl (some 3) rfl c47 (by as_aux_lemma => kernel_rfl) ?_)
    | (refine wpList_buildTo rfl 55 _ rfl (some 4) rfl cxL (by as_aux_lemma => kernel_rfl) ?_)
    | (refine Great.wpList_allocTo rfl (some 1) rfl (.pointer (some ⟨w.heap.size, 0, none⟩)) (.cells zxL 55) (by as_aux_lemma => kernel_rfl) ?_)
    | (refine wpList_store_rowTo rfl 55 _ _ rfl rfl w.heap.size cxL rfl rfl 55 zxL (heap_alloc_new w _) cxL_sz rfl (by as_aux_lemma => kernel_rfl) ?_)
    | ((with_reducible refine load_blk ?_ 55 (.tmp 1) ?_ X1.out ?_ _ Tryd.underlying55 ?_ ?_ ?_); (iterate 4 rfl); exact cxL_sz))
  refine HE.out.mono ?_
  rintro e w1 ⟨A, c, x, y, rfl, hA, t1, t2, t3, t4, hb1⟩
  obtain ⟨ad, rfl, _, h0⟩ := hA 0 (by simp)
  obtain ⟨ad', e', _, h1⟩ := hA 1 (by simp)
  injection e' with e'
  subst e'
  obtain ⟨q0, q1, _, q3⟩ := rc_cells (a := ad) (x := x) h0
  have h4 : w1.cell? ⟨ad.block, ad.off + 4, none⟩ = some (.int .i64 y.r.ty) := h1 0 (by show 0 < 4; omega)
  rw [t1] at q0
  rw [t2] at q1
  rw [t3] at q3
  rw [t4] at h4
  have HB1 := Lib.hid (below_then HB0.out hb1)
  clear t1 t2 t3 t4 hb1 h0 h1 hA X1 HE
  go_wp2_with fail
  go_ret
  exact ⟨rfl, HB1.out⟩
/-- The list that is made. -/
structure LsSt (w wr : World) (v : Value) (L : List Rm) (b : Int) : Prop where
  low : Below w.heap.size w wr
  src : SrcOk wr w.heap.size w.heap.size b
  own : OwnE ER wr (w.heap.size + 1) v L
  ps : ∀ x ∈ L, OwnE EP wr (w.heap.size + 1) x.sl x.r.ps ∧ (∀ k, x.sl.ownBlock = some k → v.ownBlock ≠ some k) ∧ x.r.ps.length ≤ 1000
section
variable {w wr w' w2 : World} {v v' : Value} {L : List Rm} {b b' : Int} {x : Rm}
theorem LsSt.step (h : LsSt w wr v L b) (hs : SrcOk w' w.heap.size w.heap.size b') (hg : wr.grownBy w' (some w.heap.size)) : LsSt w w' v L b' :=
  ⟨below_only h.low hg h.low.size (Nat.le_refl _), hs, h.own.far hg (fun k hk e => by injection e with e; have := h.own.ge k hk; omega), fun x hx => ⟨(h.ps x hx).1.far hg (fun k hk e => by injection e with e; have := (h.ps x hx).1.ge k hk; omega), (h.ps x hx).2⟩⟩
theorem LsSt.below (h : LsSt w wr v L b) (hb : Below wr.heap.size wr w') : LsSt w w' v L b := ⟨below_then h.low hb, h.src.below hb, h.own.below hb, fun x hx => ⟨(h.ps x hx).1.below hb, (h.ps x hx).2⟩⟩
theorem LsSt.more (h : LsSt w wr v L b) (hb : b ≤ b') : LsSt w wr v L b' := ⟨h.low, h.src.more hb, h.own, h.ps⟩
theorem LsSt.app (h : LsSt w w2 v L b) (hp : OwnE EP w2 (w.heap.size + 1) x.sl x.r.ps) (hf : ∀ k, x.sl.ownBlock = some k → v.ownBlock ≠ some k) (hl : x.r.ps.length ≤ 1000) (ho : OwnE ER w' (w.heap.size + 1) v' (L ++ [x])) (hg : w2.grownBy w' v.ownBlock) (hat : v'.ownBlock = v.ownBlock ∨ v'.ownBlock = some w2.heap.size) : LsSt w w' v' (L ++ [x]) b := by
  have hps : ∀ z : Rm, OwnE EP w2 (w.heap.size + 1) z.sl z.r.ps → (∀ k, z.sl.ownBlock = some k → v.ownBlock ≠ some k) → OwnE EP w' (w.heap.size + 1) z.sl z.r.ps ∧ ∀ k, z.sl.ownBlock = some k → v'.ownBlock ≠ some k := fun z h1 h2 =>
    ⟨h1.far hg h2, fun k hk => by
      rcases hat with e | e
      · rw [e]; exact h2 k hk
      · rw [e]; intro e2; injection e2 with e2; have := h1.lt k hk; omega⟩
  refine ⟨h.low.grown hg h.low.size (fun k e => by have := h.own.ge k e; omega), h.src.grown hg (fun k e => by have := h.own.ge k e; omega), ho, fun z hz => ?_⟩
  rcases List.mem_append.1 hz with hz | hz
  · exact ⟨(hps z (h.ps z hz).1 (h.ps z hz).2.1).1, (hps z (h.ps z hz).1 (h.ps z hz).2.1).2, (h.ps z hz).2.2⟩
  · rw [List.mem_singleton.1 hz]; exact ⟨(hps x hp hf).1, (hps x hp hf).2, hl⟩
theorem LsSt.recs (h : LsSt w wr v L b) : ∃ A c, v = .slice A L.length c ∧ RecsAt wr A L := by
  obtain ⟨A, c, e, ha⟩ := h.own.at
  refine ⟨A, c, e, ha, fun x hx => ?_, fun x hx => (h.ps x hx).2.2⟩
  obtain ⟨A', c', e2, h2⟩ := (h.ps x hx).1.at
  injection e2 with e2
  rw [e2]; exact h2
end
theorem same_at {L M : List Rm} {s : Int} (h : M.map (·.r) = L.map fun x => ({ x.r with se := s } : Rc)) {k : Nat} (hk : k < L.length) (hk2 : k < M.length) : (M[k]).r = { (L[k]).r with se := s } := by
  have := congrArg (fun l : List Rc => l[k]?) h
  simpa [hk, hk2] using this
set_option maxRecDepth 100000 in
set_option maxHeartbeats 16000000 in
theorem emitStamps_walk (w : World) (A : Option Addr) (n c : Nat) (s : Int) (hn : (n : Int) ≤ 9223372036854775807)
    (hl : ∀ k, k < n → ∃ (ad : Addr) (z : Int), A = some ad ∧ ad.block < w.heap.size ∧ w.cell? (ad.add k) = some (.int .i64 z) ∧ -9223372036854775808 ≤ z ∧ z ≤ 9223372036854775807) (hc : Calls10 w) :
    Calls Tryd.prog 3 #[.slice A n c, .int .i64 s] w fun e w' => e = .returned (.bool true) ∧ Below w.heap.size w w' := by
  have HL := Lib.hid hl
  have HN := Lib.hid hn
  have HAW := Lib.hid (fun (W : World) (h : Below w.heap.size w W) => awake19 W (hc.below h (Nat.le_refl _)))
  clear hl hn hc
  go_enter Tryd.func3, Tryd.ntmps3
  go_wp2_with fail
  refine (src_new _ A n c HN.out HL.out).mono ?_
  rintro e w1 ⟨rfl, hs1, hb1⟩
  have ST0 := Lib.hid (show LsSt w w1 (.slice none 0 0) [] 0 from ⟨hb1, hs1, OwnE.nil _ _, fun x hx => by cases hx⟩)
  clear hs1 hb1
  go_wp2_with fail
  refine (src_n _ w.heap.size w.heap.size 0 5 ST0.out.src (by omega) (by omega) (by omega)).mono ?_
  rintro e w2 ⟨m, rfl, m0, m1, hs, hg⟩
  have ST1 := Lib.hid (ST0.out.step hs hg)
  obtain ⟨kn, rfl⟩ := Int.eq_ofNat_of_zero_le m0
  clear hs hg ST0 m0
  go_wp2_with fail
  go_loopw [6, 7] (fun v i wr => ∃ (k : Nat) (L : List Rm), i = .int .i64 (k : Int) ∧ L.length + k ≤ 4 ∧ LsSt w wr v L (1 + 100 * L.length)) (fun _ i _ => (intOf i).toNat)
  case atStart => exact ⟨kn, [], rfl, by simp; omega, ST1.out.more (by simp)⟩
  case round =>
    obtain ⟨k, L, rfl, hlen, hst⟩ := hrel
    generalize u6 = v at *
    have ST := Lib.hid hst
    clear hst ST1 m1
    by_cases hk : 0 < k
    · have hk1 : (0 : Int) < (k : Int) := by omega
      go_wp2_with fail
      refine (src_record _ w.heap.size w.heap.size (1 + 100 * L.length) ST.out.src (by omega)).mono ?_
      rintro e w3 ⟨x, rfl, hox, hs, hg, hx3⟩
      have hwr : w.heap.size ≤ wr.heap.size := ST.out.low.size
      have hfx : ∀ k, x.sl.ownBlock = some k → v.ownBlock ≠ some k := fun j hj e => by have := hox.ge j hj; have := ST.out.own.lt j e; omega
      have ST2 := Lib.hid ((ST.out.step hs hg).below ((Below.refl w3.heap.size w3).alloc (Nat.le_refl _) (.cells (rcC x.r x.sl) 29)))
      have HOX := Lib.hid ((hox.low (base := w.heap.size + 1) (by omega)).alloc (.cells (rcC x.r x.sl) 29))
      have HFX := Lib.hid hfx
      have HX3 := Lib.hid (show x.r.ps.length ≤ 1000 by omega)
      have RW := Lib.hid (row_newE ER w3 (rcC x.r x.sl) 29 x rfl (Nat.lt_succ_self w3.heap.size))
      have hbase : w.heap.size + 1 ≤ (w3.alloc (.cells (rcC x.r x.sl) 29)).heap.size := by have := src_lt ST2.out.src; exact this
      clear hox hfx hs hg hx3 ST
      go_wp2_with (refine wpList_append_el ER rfl (.tmp 19) (.tmp 22) rfl (w.heap.size + 1) v L rfl ST2.out.own (w3.heap.size + 1) (some ⟨w3.heap.size, 0, none⟩) 1 1 [x] rfl rfl RW.out (by simp; omega) hbase ?_; intro v6 w6 ho6 hg6 hat6)
      have ST3 := Lib.hid (ST2.out.app HOX.out HFX.out HX3.out ho6 hg6 hat6)
      clear ho6 hg6 hat6
      go_wp2_with fail
      go_roundw
      case rel => exact ⟨k - 1, L ++ [x], by go_num, by rw [List.length_append, List.length_singleton]; omega, ST3.out.more (by rw [List.length_append, List.length_singleton]; omega)⟩
      case measure => simp [intOf]; omega
    · obtain rfl : k = 0 := by omega
      obtain ⟨T, tc, hf, hT⟩ := ST.out.recs
      subst hf
      have HT := Lib.hid hT
      have HLW := Lib.hid ST.out.low
      have hl4 : L.length ≤ 4 := by omega
      clear hT ST hlen
      go_wp2_with fail
      refine (vstamp T L.length tc L s rfl (by omega) _ HT.out).mono ?_
      rintro e w5 ⟨B, d, M, rfl, hML, hM, hrs, hb5⟩
      have HT5 := Lib.hid (HT.out.below hb5)
      have HM5 := Lib.hid hM
      have HRS := Lib.hid hrs
      have HLM := Lib.hid hML
      have HL5 := Lib.hid (below_then HLW.out hb5)
      have b1 : ((L.length : Int) != (L.length : Int)) = false := by simp
      clear hb5 hM hrs hML HT HLW
      generalize hnl : L.length = nl at *
      have HNL := Lib.hid hnl
      clear hnl
      go_wp2_with fail
      go_loopw [9] (fun i wr => ∃ j : Nat, j ≤ nl ∧ i = .int .i64 (j : Int) ∧ Below w5.heap.size w5 wr) (fun i _ => nl - (intOf i).toNat)
      case atStart => exact ⟨0, Nat.zero_le _, rfl, Below.refl _ _⟩
      case round =>
        obtain ⟨j, hj, rfl, hbw⟩ := hrel
        have HBW := Lib.hid hbw
        by_cases hlt : j < nl
        · have hjL : j < L.length := by rw [HNL.out]; exact hlt
          have hjM : j < M.length := by rw [HLM.out]; exact hlt
          have HXY := same_at HRS.out hjL hjM
          have hrT := HT5.out.below hbw
          have hrM := HM5.out.below hbw
          obtain ⟨ad, rfl, _, hcx⟩ := hrT.at' j hjL
          obtain ⟨bd, rfl, hbl0, hcy⟩ := hrM.at' j hjM
          have hbl : (bd.add (j * 4)).block < wr.heap.size := by rw [addE_block]; exact hbl0
          clear hbl0
          have hpx := hrT.ps _ (List.getElem_mem hjL)
          have hpy := hrM.ps _ (List.getElem_mem hjM)
          have hlx := hrT.ln _ (List.getElem_mem hjL)
          obtain ⟨s0, s1, s2, s3⟩ := rc_cells (a := ad.add (j * 4)) hcx
          obtain ⟨u0, u1, u2, u3⟩ := rc_cells (a := bd.add (j * 4)) hcy
          clear hcx hcy hrT hrM
          generalize L[j] = x at *
          generalize M[j] = y at *
          obtain ⟨yr, yA, yc⟩ := y
          simp only at HXY u0 u1 u2 u3 hpy
          subst HXY
          have j0 : (0 : Int) ≤ (j : Int) := by omega
          have j1 : (j : Int) < (nl : Int) := by omega
          have hba : Below wr.heap.size wr (wr.alloc (.cells (rcC { x.r with se := s } x.sl) 29)) := (Below.refl _ _).alloc (Nat.le_refl _) _
          obtain ⟨zd, ez, _, hcz⟩ := row_newE ER wr (rcC { x.r with se := s } x.sl) 29 ⟨{ x.r with se := s }, x.A, x.c⟩ rfl (Nat.lt_succ_self wr.heap.size) 0 (by simp)
          injection ez with ez
          subst ez
          obtain ⟨z0, z1, z2, z3⟩ := rc_cells (a := ⟨wr.heap.size, 0, none⟩) (x := ⟨{ x.r with se := s }, x.A, x.c⟩) hcz
          obtain ⟨W, hW⟩ : ∃ W, W = wr.alloc (.cells (rcC { x.r with se := s } x.sl) 29) := ⟨_, rfl⟩
          rw [← hW] at hba z0 z1 z2 z3
          have u0 := (hba.cell hbl).trans u0
          have u1 := (hba.cell (p := ⟨(bd.add (j * 4)).block, (bd.add (j * 4)).off + 1, none⟩) hbl).trans u1
          have u2 := (hba.cell (p := ⟨(bd.add (j * 4)).block, (bd.add (j * 4)).off + 2, none⟩) hbl).trans u2
          have u3 := (hba.cell (p := ⟨(bd.add (j * 4)).block, (bd.add (j * 4)).off + 3, none⟩) hbl).trans u3
          have HSM := Lib.hid (fun (W2 : World) (h : Below W.heap.size W W2) => rsame { x.r with se := s } yA x.A x.r.ps.length yc x.c rfl (by omega) W2 ((hpy.below hba).below h) ((hpx.below hba).below h))
          have HBA := Lib.hid (below_then HBW.out hba)
          have HWE := Lib.hid (show wr.alloc (.cells #[.int .i64 x.r.ty, .int .i64 x.r.ti, .int .i64 s, .slice x.A x.r.ps.length x.c] 29) = W from hW.symm)
          clear hpx hpy hba hbw hcz hW
          go_wp2_with fail
          rw [HWE.out]
          clear HWE
          go_still_tail 5, (by kernel_rfl)
          go_wp2_with fail
          refine (HSM.out _ (Below.refl _ _).drew).mono ?_
          rintro e w6 ⟨rfl, hb6⟩
          have HB6 := Lib.hid (below_then HBA.out.drew hb6)
          clear hb6 s0 s1 s2 s3 u0 u1 u2 u3 z0 z1 z2 z3
          go_wp2_with fail
          go_roundw
          case rel => exact ⟨j + 1, by omega, by go_num, HB6.out⟩
          case measure => simp [intOf]; omega
        · have hjn : j = nl := by omega
          subst hjn
          have d1 : ¬ (j : Int) < (j : Int) := by omega
          clear hbw hlt
          go_wp2_with fail
          refine (HAW.out _ (below_then HL5.out HBW.out)).mono ?_
          rintro e w7 ⟨rfl, hb7⟩
          have HB7 := Lib.hid (below_then (below_then HL5.out HBW.out) hb7)
          clear hb7
          go_wp2_with fail
          go_ret
          exact ⟨rfl, HB7.out⟩
end Go.Proofs.YtollifnnpihfdaaDoor

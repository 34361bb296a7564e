/- The walk of the law ValueBuilt. -/
import Derived.Test.YthidojkckhjciaaDoorParses
import Derived.Test.YthidojkckhjciaaDoorSrcPair
import Derived.Deep.DrawnRows
import Derived.Laws.IdiomStrings
namespace Go.Proofs.YthidojkckhjciaaDoor
open Go.RowKit
attribute [local irreducible] checkE fmtS
attribute [local go_sem ↓] Go.wp_at_zero Go.wp_at_succ
theorem fmt_le (nm : ByteArray) (kd nu : Int) (tx : ByteArray) (h1 : nm.size ≤ 17) (h6 : tx.size ≤ 4) (h4 : -9223372036854775808 ≤ nu) (h5 : nu ≤ 9223372036854775807) : (fmtS nm kd nu tx).size ≤ 2000 := by
  unfold fmtS
  split
  · have e : (nm ++ (⟨#[61]⟩ : ByteArray) ++ textS kd nu tx).size = nm.size + 1 + (textS kd nu tx).size := by rw [ByteArray.size_append, ByteArray.size_append]; rfl
    have ht : (textS kd nu tx).size ≤ 1500 := by
      unfold textS
      split
      · have := numS_size nu h4 h5; omega
      · split
        · rcases quoteS_size tx (by omega) with h | h <;> omega
        · decide
    omega
  · decide
theorem frozen_of (w : World) (g j : Nat) (cs : Array Value) (t : TypeId) (a b : Nat) (hg : w.heap[g]? = some (.cells cs t (a, b))) (hj : j < a) : w.frozen? ⟨g, j, none⟩ = false := by
  simp [World.frozen?, hg]; omega
/-- A byte of a row of bytes, changed; and the string that the row makes then. -/
theorem back_of (w8 : World) (g cap k : Nat) (s : ByteArray) (v : UInt8) (cs : Array Value) (fr : Nat × Nat) (hg : w8.heap[g]? = some (.cells cs 5 fr)) (hc : ∀ j, j < s.size → cs[j]? = some (.int .u8 (s.data.toList.getD j 0).toNat)) (hk : k < s.size) :
    (convert 28 9 (.slice (some ⟨g, 0, none⟩) s.size cap)).run Tryd.prog (w8.setCell ⟨g, k, none⟩ (bv v)) = .ok (.string ⟨(s.data.toList.set k v).toArray⟩) (w8.setCell ⟨g, k, none⟩ (bv v)) := by
  have hl : (s.data.toList.set k v).length = s.size := by rw [List.length_set, Array.length_toList]; rfl
  have h := run_convert_bytes_back (P := Tryd.prog) (w8.setCell ⟨g, k, none⟩ (bv v)) 28 9 5 ⟨g, 0, none⟩ cap (s.data.toList.set k v) Tryd.underlying28 Tryd.underlying5 Tryd.underlying9 (fun j hj => by
    rw [hl] at hj
    have hadd : (⟨g, 0, none⟩ : Addr).add j = ⟨g, j, none⟩ := by unfold Addr.add; split <;> simp_all
    rw [hadd]
    have hcj : w8.cell? ⟨g, j, none⟩ = some (.int .u8 (s.data.toList.getD j 0).toNat) := (cell_of_row w8 g j cs 5 fr hg).trans (hc j hj)
    by_cases e : j = k
    · subst e
      rw [World.cell?_setCell_same _ _ _ hcj]
      simp [List.getElem_set]
    · rw [World.cell?_setCell_other _ _ _ _ (by intro h; injection h with _ h _; exact e h.symm), hcj]
      have hj' : j < s.data.toList.length := by rw [Array.length_toList]; exact hj
      rw [List.getElem_set_ne (Ne.symm e), List.getD_eq_getElem?_getD, List.getElem?_eq_getElem hj']
      rfl)
  rw [hl] at h
  exact h
theorem pb_below {w w' : World} {p : Nat} {nm : ByteArray} {kd nu : Int} {tx : ByteArray} (h : PBlk w p nm kd nu tx) (hb : Below w.heap.size w w') : PBlk w' p nm kd nu tx := (hb.block p h.lt).trans h
theorem holdB {nm : ByteArray} {kd nu : Int} {tx : ByteArray} {g2 : Nat} {w w' : World} (hb : Below w.heap.size w w') (hs : SrcOk w' w.heap.size w.heap.size 20) (hp : PBlk w' g2 nm kd nu tx) : Below w.heap.size w w' ∧ SrcOk w' w.heap.size w.heap.size 20 ∧ PBlk w' g2 nm kd nu tx ∧ w'.cell? ⟨g2, 0, none⟩ = some (.string nm) ∧ w'.cell? ⟨g2, 1, none⟩ = some (.int .i64 kd) ∧ w'.cell? ⟨g2, 2, none⟩ = some (.int .i64 nu) ∧ w'.cell? ⟨g2, 3, none⟩ = some (.string tx) := by
  obtain ⟨p0, p1, p2, p3⟩ := hp.cells
  exact ⟨hb, hs, hp, p0, p1, p2, p3⟩
theorem holdB_keep {nm : ByteArray} {kd nu : Int} {tx : ByteArray} {g2 : Nat} {w w' w1 : World} (h : Below w.heap.size w w' ∧ SrcOk w' w.heap.size w.heap.size 20 ∧ PBlk w' g2 nm kd nu tx ∧ w'.cell? ⟨g2, 0, none⟩ = some (.string nm) ∧ w'.cell? ⟨g2, 1, none⟩ = some (.int .i64 kd) ∧ w'.cell? ⟨g2, 2, none⟩ = some (.int .i64 nu) ∧ w'.cell? ⟨g2, 3, none⟩ = some (.string tx)) (hb : Below w'.heap.size w' w1) : Below w.heap.size w w1 ∧ SrcOk w1 w.heap.size w.heap.size 20 ∧ PBlk w1 g2 nm kd nu tx ∧ w1.cell? ⟨g2, 0, none⟩ = some (.string nm) ∧ w1.cell? ⟨g2, 1, none⟩ = some (.int .i64 kd) ∧ w1.cell? ⟨g2, 2, none⟩ = some (.int .i64 nu) ∧ w1.cell? ⟨g2, 3, none⟩ = some (.string tx) :=
  holdB (below_then h.1 hb) (h.2.1.below hb) (pb_below h.2.2.1 hb)
theorem holdB_out {nm : ByteArray} {kd nu : Int} {tx : ByteArray} {g2 : Nat} {w w' : World} (h : Below w.heap.size w w' ∧ SrcOk w' w.heap.size w.heap.size 20 ∧ PBlk w' g2 nm kd nu tx ∧ w'.cell? ⟨g2, 0, none⟩ = some (.string nm) ∧ w'.cell? ⟨g2, 1, none⟩ = some (.int .i64 kd) ∧ w'.cell? ⟨g2, 2, none⟩ = some (.int .i64 nu) ∧ w'.cell? ⟨g2, 3, none⟩ = some (.string tx)) : Below w.heap.size w w' ∧ SrcOk w' w.heap.size w.heap.size 20 := ⟨h.1, h.2.1⟩
set_option maxRecDepth 100000 in
set_option maxHeartbeats 4000000 in
theorem valueBuilt_walk (w : World) (A : Option Addr) (n c : Nat) (by' : UInt8) (hn : (n : Int) ≤ 9223372036854775807)
    (hl : ∀ k, k < n → ∃ (ad : Addr) (z : Int), A = some ad ∧ ad.block < w.heap.size ∧ w.cell? (ad.add k) = some (.int .i64 z) ∧ -9223372036854775808 ≤ z ∧ z ≤ 9223372036854775807) (he : Env w) :
    Calls Tryd.prog 9 #[.slice A n c, bv by'] w fun e w' => e = .returned (.bool true) ∧ Below w.heap.size w w' := by
  have HL := Lib.hid hl
  have HN := Lib.hid hn
  have HE := Lib.hid (fun (W : World) (h : Below w.heap.size w W) => he.below h)
  clear hl hn he
  go_enter Tryd.func9, Tryd.ntmps9
  go_wp2_with fail
  refine (src_new w A n c HN.out HL.out).mono ?_
  rintro e w1 ⟨rfl, hs1, hb1⟩
  have HS1 := Lib.hid hs1
  have hlt1 : w.heap.size < w1.heap.size := src_lt hs1
  clear hs1 HL HN
  go_wp2_with fail
  refine (src_pair _ w.heap.size w.heap.size 0 HS1.out (by omega)).mono ?_
  rintro e w2 ⟨nm, kd, nu, tx, rfl, h1, h2, h3, h4, h5, h6, hs2, hg2⟩
  have hb2 : Below w.heap.size w w2 := below_only hb1 hg2 (by omega) (Nat.le_refl _)
  have hlt2 : w.heap.size < w2.heap.size := src_lt hs2
  have HS2 := Lib.hid ((hs2.more (show (0 : Int) + 20 ≤ 20 by omega)).alloc (.cells #[.string nm, .int .i64 kd, .int .i64 nu, .string tx] 31))
  have P3 : PBlk (w2.alloc (.cells #[.string nm, .int .i64 kd, .int .i64 nu, .string tx] 31)) w2.heap.size nm kd nu tx := heap_alloc_new w2 _
  have hb3 := hb2.alloc (by omega) (.cells #[.string nm, .int .i64 kd, .int .i64 nu, .string tx] 31)
  clear hs2 hg2 hb2 HS1 hb1
  go_wp2_with fail
  generalize hw3 : w2.alloc (.cells #[.string nm, .int .i64 kd, .int .i64 nu, .string tx] 31) = w3 at *
  clear hw3
  generalize w2.heap.size = g2 at *
  refine (vformat nm kd nu tx _ (by unfold maxLen; omega) (by unfold maxLen; omega) h4 h5 (HE.out _ hb3).tab (HE.out _ hb3).pow).mono ?_
  rintro e w4 ⟨rfl, hb4⟩
  have HS4 := Lib.hid (HS2.out.below hb4)
  have P4 := pb_below P3 hb4
  have b4 := below_then hb3 hb4
  clear HS2 P3 hb3 hb4
  obtain ⟨p0, p1, p2, p3⟩ := P4.cells
  go_wp2_with fail
  refine (rformat nm kd nu tx _ (by unfold maxLen; omega) (by unfold maxLen; omega) h4 h5).mono ?_
  rintro e w5 ⟨rfl, hb5⟩
  have HS5 := Lib.hid (HS4.out.below hb5)
  have P5 := pb_below P4 hb5
  have b5 := below_then b4 hb5
  clear HS4 P4 b4 hb5 p0 p1 p2 p3
  obtain ⟨p0, p1, p2, p3⟩ := P5.cells
  go_wp2_with fail
  have hs5 := HS5.out
  go_region_held3 (fun w' => Below w.heap.size w w' ∧ SrcOk w' w.heap.size w.heap.size 20 ∧ PBlk w' g2 nm kd nu tx ∧ w'.cell? ⟨g2, 0, none⟩ = some (.string nm) ∧ w'.cell? ⟨g2, 1, none⟩ = some (.int .i64 kd) ∧ w'.cell? ⟨g2, 2, none⟩ = some (.int .i64 nu) ∧ w'.cell? ⟨g2, 3, none⟩ = some (.string tx))
    (first | exact ⟨b5.drew, hs5.drew, P5, p0, p1, p2, p3⟩ | exact holdB_keep (by assumption) hb)
    (first | (go_at_call 18; refine (vcheck _ _ _ _ _ (by unfold maxLen; omega) (by unfold maxLen; omega)).mono ?_; rintro e w6 ⟨rfl, hb⟩) | (go_at_call 19; refine (rcheck _ _ _ _ _ (by unfold maxLen; omega) (by unfold maxLen; omega)).mono ?_; rintro e w6 ⟨rfl, hb⟩))
  all_goals
    clear hs5 P5 b5 p0 p1 p2 p3 HS5
    obtain ⟨b6, s6⟩ := holdB_out (nm := nm) (kd := kd) (nu := nu) (tx := tx) (g2 := g2) (w := w) (by assumption)
    have HS6 := Lib.hid s6
    have HS60 := Lib.hid s6
    clear s6
    have hfs : (fmtS nm kd nu tx).size ≤ 2000 := fmt_le nm kd nu tx h1 h6 h4 h5
    by_cases hf0 : 0 < (fmtS nm kd nu tx).size
    · generalize fmtS nm kd nu tx = fs at *
      have hcv := Lib.run_convert_string_bytes (P := Tryd.prog) w6 9 28 5 fs Tryd.underlying9 Tryd.underlying28 Tryd.underlying5
      have hbw := Joins.below_bytesWorld w6.heap.size w6 5 fs (Nat.le_refl _)
      have hat := Lib.bytesWorld_at_new w6 5 fs
      have hszw := Lib.bytesWorld_size w6 5 fs
      have hcl := Lib.hid (fun j hj => Lib.bytesWorld_cell w6 5 fs j hj)
      go_wp2_with fail
      clear hcv
      have HS7 := Lib.hid (HS6.out.below hbw)
      have b7 := below_then b6 hbw
      have HAT := Lib.hid hat
      have hsw : w6.heap.size < (Lib.bytesWorld w6 5 fs).heap.size := by omega
      clear hat hszw hbw HS6
      have hcc : ∀ j, j < fs.size → (Lib.bytesCells w6 5 fs)[j]? = some (.int .u8 (fs.data.toList.getD j 0).toNat) := fun j hj => (cell_of_row _ _ j _ _ _ HAT.out).symm.trans (hcl.out j hj)
      have hbs : fs.size ≤ (Lib.bytesCells w6 5 fs).size := by unfold Lib.bytesCells; simp
      have HCC := Lib.hid hcc
      clear hcc hcl
      have hlt6 : w.heap.size < w6.heap.size := src_lt HS60.out
      generalize Lib.bytesCells w6 5 fs = bc at *
      generalize Lib.bytesWorld w6 5 fs = w7 at *
      refine (src_n _ w.heap.size w.heap.size 20 _ HS7.out (by omega) (by omega) (by omega)).mono ?_
      rintro e w8 ⟨x, rfl, x0, x1, hs8, hg8⟩
      obtain ⟨k, rfl⟩ := Int.eq_ofNat_of_zero_le x0
      have hk : k < fs.size := by omega
      have hblk := (hg8.block w6.heap.size hsw (fun e => by injection e with e; omega)).trans HAT.out
      have ck := (cell_of_row w8 w6.heap.size k _ _ _ hblk).trans (HCC.out k hk)
      have fk := frozen_of w8 w6.heap.size k _ _ _ _ hblk (by omega)
      have hbk := back_of w8 w6.heap.size (grownCap w6 fs.size 0 5) k fs by' _ _ hblk HCC.out hk
      have b8 : Below w.heap.size w (w8.setCell ⟨w6.heap.size, k, none⟩ (bv by')) := (below_only b7 hg8 (by omega) (Nat.le_refl _)).setCell (by show _ ≤ w6.heap.size; omega) _
      have hzb : (⟨(fs.data.toList.set k by').toArray⟩ : ByteArray).size ≤ 1000000 := by
        show (fs.data.toList.set k by').toArray.size ≤ _
        have : fs.data.toList.length = fs.size := Array.length_toList
        simp at *; omega
      clear hs8 hg8 hblk HS7
      go_wp2_with fail
      clear ck fk hbk
      generalize (⟨(fs.data.toList.set k by').toArray⟩ : ByteArray) = b2 at *
      generalize w8.setCell ⟨w6.heap.size, k, none⟩ (bv by') = w9 at *
      refine (vparse b2 hzb _ (HE.out _ b8)).mono ?_
      rintro e v1 ⟨nm2, kd2, nu2, tx2, er2, rfl, hp1, hb1⟩
      have c1 := below_then b8 hb1
      have c2 := c1.alloc c1.size (.cells #[.string nm2, .int .i64 kd2, .int .i64 nu2, .string tx2] 31)
      have P2 := Blk.new v1 #[.string nm2, .int .i64 kd2, .int .i64 nu2, .string tx2] 31
      clear hb1 c1
      go_wp2_with fail
      generalize v1.alloc (.cells #[.string nm2, .int .i64 kd2, .int .i64 nu2, .string tx2] 31) = v2 at *
      generalize v1.heap.size = g1 at *
      refine (rparse b2 hzb _).mono ?_
      rintro e v3 ⟨nm3, kd3, nu3, tx3, er3, rfl, hp2, hb3⟩
      obtain ⟨e1, e2, e3, e4, e5⟩ := hp2.unique hp1
      subst e1 e2 e3 e4 e5
      have P4 := (P2.below hb3).alloc (.cells #[.string nm3, .int .i64 kd3, .int .i64 nu3, .string tx3] 31)
      have c3 := below_then c2 hb3
      have c4 := c3.alloc c3.size (.cells #[.string nm3, .int .i64 kd3, .int .i64 nu3, .string tx3] 31)
      have p0 := P4.cell 0
      have p1 := P4.cell 1
      have p2 := P4.cell 2
      have p3 := P4.cell 3
      clear c2 P2 hb3 hp1 hp2
      go_wp2_with fail
      refine (awake_true _ (HE.out _ c4).tab).mono ?_
      rintro e v5 ⟨rfl, hb5⟩
      go_wp2_with fail
      go_ret
      exact ⟨rfl, below_then c4 hb5⟩
    · clear HS6
      go_wp2_with fail
      have hzf : (fmtS nm kd nu tx).size ≤ 1000000 := by omega
      generalize fmtS nm kd nu tx = fs at *
      refine (vparse fs hzf _ (HE.out _ b6)).mono ?_
      rintro e v1 ⟨nm2, kd2, nu2, tx2, er2, rfl, hp1, hb1⟩
      have c1 := below_then b6 hb1
      have c2 := c1.alloc c1.size (.cells #[.string nm2, .int .i64 kd2, .int .i64 nu2, .string tx2] 31)
      have P2 := Blk.new v1 #[.string nm2, .int .i64 kd2, .int .i64 nu2, .string tx2] 31
      clear hb1 c1
      go_wp2_with fail
      generalize v1.alloc (.cells #[.string nm2, .int .i64 kd2, .int .i64 nu2, .string tx2] 31) = v2 at *
      generalize v1.heap.size = g1 at *
      refine (rparse fs hzf _).mono ?_
      rintro e v3 ⟨nm3, kd3, nu3, tx3, er3, rfl, hp2, hb3⟩
      obtain ⟨e1, e2, e3, e4, e5⟩ := hp2.unique hp1
      subst e1 e2 e3 e4 e5
      have P4 := (P2.below hb3).alloc (.cells #[.string nm3, .int .i64 kd3, .int .i64 nu3, .string tx3] 31)
      have c3 := below_then c2 hb3
      have c4 := c3.alloc c3.size (.cells #[.string nm3, .int .i64 kd3, .int .i64 nu3, .string tx3] 31)
      have p0 := P4.cell 0
      have p1 := P4.cell 1
      have p2 := P4.cell 2
      have p3 := P4.cell 3
      clear c2 P2 hb3 hp1 hp2
      go_wp2_with fail
      refine (awake_true _ (HE.out _ c4).tab).mono ?_
      rintro e v5 ⟨rfl, hb5⟩
      go_wp2_with fail
      go_ret
      exact ⟨rfl, below_then c4 hb5⟩
end Go.Proofs.YthidojkckhjciaaDoor

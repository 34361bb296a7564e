/- Parse of package field: the test that Format writes as s, or the error. -/
import Derived.Test.YtnpaoepkpdileaaDoorFieldVRead
import Derived.Test.YtnpaoepkpdileaaDoorIndexAny
import Derived.Deep.QuietTactic
import Derived.BigQuiet
namespace Go.Proofs.YtnpaoepkpdileaaDoor
open Go.RowKit
theorem vprefixF (t p : ByteArray) (w : World) : Calls Tryd.prog 42 #[.string t, .string p] w fun e w' => e = .returned (.bool (Lib.hasPrefix t.data.toList p.data.toList)) ∧ w' = w :=
  (Tryd.strings_HasPrefix t p w).mono fun _ _ h => ⟨h.1, h.2⟩
def FParse (s : ByteArray) (w : World) (e : Ending) (w' : World) : Prop := ∃ (fd op nu : Int) (tx : ByteArray) (ot er : Int), e = .returned (.tuple #[testV fd op nu tx ot, .int .i64 er]) ∧ TIs s fd op nu tx ot er ∧ tx.size ≤ 640 ∧ I64 nu ∧ Below w.heap.size w w'
theorem tis_bad {s : ByteArray} (h : NoTest s) : TIs s 0 0 0 ⟨#[]⟩ 0 123 := .inr ⟨rfl, rfl, rfl, rfl, rfl, rfl, h⟩
theorem ext0 (s : ByteArray) (i : Nat) : (s.extract 0 i).data.toList = s.data.toList.take i := by rw [Lib.extract_data]; simp
theorem ext1 (s : ByteArray) (i : Nat) : (s.extract i s.size).data.toList = s.data.toList.drop i := by
  rw [Lib.extract_data, List.take_of_length_le (by rw [List.length_drop, bsz']; omega)]
theorem opAt_zero (l : List UInt8) : opAt l 0 = 0 := rfl
theorem test_one (fd op nu : Int) (tx : ByteArray) (ot : Int) : (testC fd op nu tx ot).all (·.oneCell') = true := by simp [Value.oneCell']
theorem results_cell_tmpF {P : Program} {fn : Func} {p q : Tmp} {ty : TypeId} (h : fn.results = #[.cell p ty, .tmp q]) (tmps : Array Value) (w : World) (g : Nat) (t : TypeId) (cs : Array Value) (d : TypeDesc)
    (hp : tmps.getD p undef = .pointer (some ⟨g, 0, none⟩)) (hg : Blk w g t cs) (hu : P.underlying ty = some d) (hd : (match d with | .struct _ | .array _ _ => true | _ => false) = true) (hi : (P.info? ty).map (·.size) = some cs.size) :
    (results fn tmps).run P w = .ok (.tuple #[.agg cs, tmps.getD q undef]) w := by
  have hp' : tmps[p]?.getD undef = .pointer (some ⟨g, 0, none⟩) := by simpa using hp
  simp [results, h, hp', asAddr, run_loadVar_row w g t ty cs (0, 0) d hg hu hd hi]
theorem test_ret2 {fn : Func} (h : fn.results = #[.cell 2 23, .tmp 3]) (tmps : Array Value) (w : World) (g : Nat) (cs : Array Value) (hp : tmps.getD 2 undef = .pointer (some ⟨g, 0, none⟩)) (hg : Blk w g 23 cs) (h5 : cs.size = 5) :
    (results fn tmps).run Tryd.prog w = .ok (.tuple #[.agg cs, tmps.getD 3 undef]) w :=
  results_cell_tmpF h tmps w g _ _ _ hp hg Tryd.underlying23 rfl (by rw [h5]; exact test_sz 0 0 0 ⟨#[]⟩ 0)
theorem opAt_yes {l : List UInt8} {k j : Nat} (hj : j = k + 1) (h1 : Lib.hasPrefix l (opN j).data.toList = true) (h2 : (opN (opAt l k)).size < (opN j).size) : opAt l j = j := by
  subst hj
  exact if_pos ⟨List.isPrefixOf_iff_prefix.1 h1, h2⟩
theorem opAt_no {l : List UInt8} {k j : Nat} (hj : j = k + 1) (h : Lib.hasPrefix l (opN j).data.toList = false ∨ ¬ (opN (opAt l k)).size < (opN j).size) : opAt l j = opAt l k := by
  subst hj
  refine if_neg (fun hc => ?_)
  rcases h with h | h
  · have := List.isPrefixOf_iff_prefix.2 hc.1; unfold Lib.hasPrefix at h; rw [this] at h; cases h
  · exact h hc.2
theorem cut_op {l : List UInt8} {R : ByteArray} (hR : R.data.toList = l) (k : Nat) : (opN (opAt l k)).size ≤ R.size ∧ l = (opN (opAt l k)).data.toList ++ (R.extract (opN (opAt l k)).size R.size).data.toList := by
  have hp := opAt_prefix l k
  have hl := hp.length_le
  rw [bsz', ← hR, bsz'] at hl
  refine ⟨by rw [hR] at hl; exact hl, ?_⟩
  generalize opN (opAt l k) = O at *
  obtain ⟨t, ht⟩ := hp
  rw [ext1, hR, ← bsz' O, ← ht, List.drop_append_length]
attribute [local irreducible] textB numF numS unqS unqE checkF anyE testS fieldN opN opAt cellsN cellsO
set_option maxRecDepth 100000 in
set_option maxHeartbeats 4000000 in
theorem vparseF (s : ByteArray) (hs : s.size ≤ 1000000) (w : World) (hn : FNames w) (ho : FOps w) (he : Env w) : Calls Tryd.prog 27 #[.string s] w (FParse s w) := by
  have HN := Lib.hid (fun (W : World) (h : Below w.heap.size w W) => Glob.below hn h (Nat.le_refl _))
  have HO := Lib.hid (fun (W : World) (h : Below w.heap.size w W) => Glob.below ho h (Nat.le_refl _))
  have HZ := Blk.new w (testC 0 0 0 ⟨#[]⟩ 0) 23
  have HB0 : Below w.heap.size w (w.alloc (.cells (testC 0 0 0 ⟨#[]⟩ 0) 23)) := (Below.refl _ _).alloc (Nat.le_refl _) _
  have HNW := Lib.hid hn
  have HEW := Lib.hid he
  clear hn ho he
  go_enter Tryd.func27, Tryd.ntmps27
  go_wp2_with fail
  refine (vindexany s _ hs).mono ?_
  rintro e w1 ⟨hb1, (⟨rfl, h1⟩ | ⟨i, h1, rfl, h2, h3⟩)⟩
  · have HZ1 := Lib.hid (HZ.below hb1)
    have HB1 := Lib.hid (HB0.trans (hb1.mono HB0.size))
    have HR := Lib.hid (no_pieces h1)
    clear h1 hb1 HZ HB0
    go_wp2_with ((with_reducible refine store_blk ?_ 23 (.tmp 2) (.tmp 12) ?_ HZ1.out (testC 0 0 0 ⟨#[]⟩ 0) ?_ ?_ ?_ ?_ ?_ ?_); (iterate 4 rfl); (exact test_sz _ _ _ _ _); rfl; (exact test_one _ _ _ _ _))
    refine bodyPost_ret (test_ret2 (fn := Tryd.f27) rfl _ _ w.heap.size _ rfl (HZ1.out.row _) rfl) rfl ?_
    exact ⟨0, 0, 0, ⟨#[]⟩, 0, 123, rfl, tis_bad HR.out, by decide, i64_zero, below_row HB1.out (Nat.le_refl _) _⟩
  · have HZ1 := Lib.hid (HZ.below hb1)
    have HB1 := Lib.hid (HB0.trans (hb1.mono HB0.size))
    have HH2 := Lib.hid (And.intro h2 h3)
    have i0 : (0 : Int) ≤ (i : Int) := by omega
    have i1 : (i : Int) ≤ (s.size : Int) := by omega
    have hlt1 := HZ1.out.lt
    clear h2 h3 hb1 HZ HB0
    go_wp2_with fail
    refine (vnumF (s.extract 0 i) _ (HN.out _ HB1.out)).mono ?_
    rintro e w' ⟨rfl, rfl⟩
    have HG0 := Blk.new w1 (testC 0 0 0 ⟨#[]⟩ 0) 23
    have HZ2 := HZ1.out.alloc (.cells (testC 0 0 0 ⟨#[]⟩ 0) 23)
    have HB2 : Below w.heap.size w (w1.alloc (.cells (testC 0 0 0 ⟨#[]⟩ 0) 23)) := HB1.out.alloc HB1.out.size _
    go_wp2_with ((with_reducible refine store_blk ?_ 23 (.tmp 5) (.tmp 17) ?_ HG0 (testC (numF (s.extract 0 i)) 0 0 ⟨#[]⟩ 0) ?_ ?_ ?_ ?_ ?_ ?_); (iterate 4 rfl); (exact test_sz _ _ _ _ _); rfl; (exact test_one _ _ _ _ _))
    have HG3 := HG0.row (testC (numF (s.extract 0 i)) 0 0 ⟨#[]⟩ 0)
    have HZ3 := HZ2.row_other (testC (numF (s.extract 0 i)) 0 0 ⟨#[]⟩ 0) (show w.heap.size ≠ w1.heap.size by omega)
    have HB3 := below_row HB2 (show w.heap.size ≤ w1.heap.size by omega) (testC (numF (s.extract 0 i)) 0 0 ⟨#[]⟩ 0)
    have hg1 : w.heap.size ≤ w1.heap.size := by omega
    obtain ⟨N, hN⟩ : ∃ N, N = s.extract 0 i := ⟨_, rfl⟩
    obtain ⟨R, hR⟩ : ∃ R, R = s.extract i s.size := ⟨_, rfl⟩
    have HNE := Lib.hid hN
    have HRE := Lib.hid hR
    have hRs : R.size ≤ 1000000 := by rw [hR]; simp; omega
    rw [← hN] at HG3 HZ3 HB3 ⊢
    rw [← hR]
    obtain ⟨l, hl⟩ : ∃ l, l = R.data.toList := ⟨_, rfl⟩
    have HL := Lib.hid hl
    clear hN hR HG0 HZ2 HB2 HZ1 HB1 hl
    obtain ⟨fd, hfd⟩ : ∃ fd, fd = numF N := ⟨_, rfl⟩
    have HFD := Lib.hid hfd
    rw [← hfd] at HG3 HZ3 HB3 ⊢
    clear hfd
    go_loopw [7] (fun v wr => ∃ k : Nat, k ≤ 8 ∧ v = .int .i64 ((k + 1 : Nat) : Int) ∧ Blk wr w1.heap.size 23 (testC fd (opAt l k : Nat) 0 ⟨#[]⟩ 0) ∧ Blk wr w.heap.size 23 (testC 0 0 0 ⟨#[]⟩ 0) ∧ Below w.heap.size w wr) (fun v _ => 9 - (intOf v).toNat)
    case atStart => exact ⟨0, by omega, rfl, by rw [opAt_zero]; exact HG3, HZ3, HB3⟩
    case round =>
      obtain ⟨k, hk, rfl, hT, hZ, hb⟩ := hrel
      clear HG3 HZ3 HB3
      have hk2 := opAt_le l k
      obtain ⟨q0, q1, q2, q3, q4⟩ := test_cells hT
      by_cases hlt : k < 8
      · have n1 := FOps.at (HO.out _ hb) (k := k + 1) (by omega)
        have n2 := FOps.at (HO.out _ hb) (k := opAt l k) (by omega)
        obtain ⟨j, hj⟩ : ∃ j, j = k + 1 := ⟨_, rfl⟩
        have HJ := Lib.hid hj
        have j1 : (j : Int) ≤ 8 := by omega
        have j2 : (j : Int) < 9 := by omega
        have j0 : (0 : Int) ≤ (j : Int) := by omega
        rw [← hj] at n1 ⊢
        clear hj
        obtain ⟨o, ho⟩ : ∃ o, o = opAt l k := ⟨_, rfl⟩
        have HOP := Lib.hid ho
        rw [← ho] at n2 hT hk2 q1
        have o1 : (o : Int) < 9 := by omega
        have o0 : (0 : Int) ≤ (o : Int) := by omega
        have f1 := hT.free 1
        have HT := Lib.hid hT
        have HZ := Lib.hid hZ
        have HB := Lib.hid hb
        clear ho hT hZ hb
        cases hp : Lib.hasPrefix R.data.toList (opN j).data.toList
        · have HP := Lib.hid (show ∀ W, Calls Tryd.prog 42 #[.string R, .string (opN j)] W fun e w' => e = .returned (.bool false) ∧ w' = W from fun W => (vprefixF R (opN j) W).mono fun _ _ h => ⟨by rw [h.1, hp], h.2⟩)
          have HN2 := Lib.hid (show opAt l j = o by rw [HOP.out]; exact opAt_no HJ.out (.inl (by rw [HL.out]; exact hp)))
          clear hp
          go_wp2_with fail
          go_quiet ((go_at_call 42; exact Calls.quiet_of_same (HP.out _)))
          go_wp2_with fail
          go_roundw
          case rel => exact ⟨j, by omega, by go_num, by rw [HN2.out]; exact HT.out, HZ.out, below_drewN HB.out _⟩
          case measure => simp [intOf]; omega
        · have HP := Lib.hid (show ∀ W, Calls Tryd.prog 42 #[.string R, .string (opN j)] W fun e w' => e = .returned (.bool true) ∧ w' = W from fun W => (vprefixF R (opN j) W).mono fun _ _ h => ⟨by rw [h.1, hp], h.2⟩)
          by_cases hsz : (opN o).size < (opN j).size
          · have HN2 := Lib.hid (show opAt l j = j from opAt_yes HJ.out (by rw [HL.out]; exact hp) (by rw [← HOP.out]; exact hsz))
            have d1 : decide ((opN o).size < (opN j).size) = true := decide_eq_true hsz
            clear hp hsz
            go_wp2_with fail
            go_quiet ((go_at_call 42; exact Calls.quiet_of_same (HP.out _)))
            go_wp2_with fail
            go_roundw
            case rel => exact ⟨j, by omega, by go_num, by rw [HN2.out]; exact (HT.out.drewN _).put 1 (.int .i64 (j : Int)), (HZ.out.drewN _).put_other (p := ⟨w1.heap.size, 1, none⟩) _ (show w.heap.size ≠ w1.heap.size by omega), (below_drewN HB.out _).setCell (p := ⟨w1.heap.size, 1, none⟩) hg1 _⟩
            case measure => simp [intOf]; omega
          · have HN2 := Lib.hid (show opAt l j = o by rw [HOP.out]; exact opAt_no HJ.out (.inr (by rw [← HOP.out]; exact hsz)))
            have d1 : decide ((opN o).size < (opN j).size) = false := decide_eq_false hsz
            clear hp hsz
            go_wp2_with fail
            go_quiet ((go_at_call 42; exact Calls.quiet_of_same (HP.out _)))
            go_wp2_with fail
            go_roundw
            case rel => exact ⟨j, by omega, by go_num, by rw [HN2.out]; exact HT.out, HZ.out, below_drewN HB.out _⟩
            case measure => simp [intOf]; omega
      · obtain rfl : k = 8 := by omega
        have hcut := cut_op HL.out.symm 8
        have n2 := FOps.at (HO.out _ hb) (k := opAt l 8) (by omega)
        obtain ⟨o, ho⟩ : ∃ o, o = opAt l 8 := ⟨_, rfl⟩
        have HOP := Lib.hid ho
        rw [← ho] at n2 hT hk2 q1 hcut
        have o1 : (o : Int) < 9 := by omega
        have o0 : (0 : Int) ≤ (o : Int) := by omega
        obtain ⟨hc1, hc2⟩ := hcut
        obtain ⟨V, hV⟩ : ∃ V, V = R.extract (opN o).size R.size := ⟨_, rfl⟩
        have hVs : V.size ≤ 1000000 := by rw [hV]; simp; omega
        rw [← hV] at hc2
        have hv2 := hV.symm
        have HP := Lib.hid (show Pieces s N V o from ⟨⟨l, by rw [HNE.out, ext0, HL.out, HRE.out, ext1, List.take_append_drop], by rw [HL.out, HRE.out, ext1]; exact HH2.out.2, HOP.out, hc2⟩, by rw [HNE.out, ext0]; exact HH2.out.1⟩)
        have oz0 : (0 : Int) ≤ ((opN o).size : Int) := by omega
        have oz1 : ((opN o).size : Int) ≤ (R.size : Int) := by omega
        have HT := Lib.hid hT
        have HZ := Lib.hid hZ
        have HB := Lib.hid hb
        clear ho hT hZ hb hc2 hc1 hV
        go_wp2_with fail
        clear hv2 q0 q1 q2 q3 q4 n2
        refine (vreadF w w1.heap.size hg1 fd o V hVs _ HB.out HT.out HNW.out HEW.out).mono ?_
        rintro e w2 ⟨ok, nu, tx, ot, rfl, hT2, hy, hn, hi, hx, hgo, hb2⟩
        have HZ2 := Lib.hid (HZ.out.grown hgo (by intro e; injection e with e; omega))
        have HT2 := Lib.hid hT2
        have HB2 := Lib.hid hb2
        have HY := Lib.hid hy
        have HNO := Lib.hid hn
        have HI := Lib.hid hi
        clear hT2 hgo hb2 hy hn hi
        cases ok
        · have HR := Lib.hid (HP.out.bad (fun nu tx ot hv => absurd (by rw [HFD.out]; exact hv) (HNO.out rfl nu tx ot)))
          go_wp2_with ((with_reducible refine store_blk ?_ 23 (.tmp 2) (.tmp 59) ?_ HZ2.out (testC 0 0 0 ⟨#[]⟩ 0) ?_ ?_ ?_ ?_ ?_ ?_); (iterate 4 rfl); (exact test_sz _ _ _ _ _); rfl; (exact test_one _ _ _ _ _))
          refine bodyPost_ret (test_ret2 (fn := Tryd.f27) rfl _ _ w.heap.size _ rfl (HZ2.out.row _) rfl) rfl ?_
          exact ⟨0, 0, 0, ⟨#[]⟩, 0, 123, rfl, tis_bad HR.out, by decide, i64_zero, below_row HB2.out (Nat.le_refl _) _⟩
        · have HRV := Lib.hid (HY.out rfl)
          have hxm : tx.size ≤ maxLen := by unfold maxLen; omega
          obtain ⟨p0, p1, p2, p3, p4⟩ := test_cells HT2.out
          go_wp2_with fail
          clear p0 p1 p2 p3 p4
          refine (vanyF fd o nu tx ot hxm _).mono ?_
          rintro e w3 ⟨rfl, hb3⟩
          have HT3 := Lib.hid (HT2.out.below hb3)
          have HZ3 := Lib.hid (HZ2.out.below hb3)
          have HB3 := Lib.hid (below_then HB2.out hb3)
          clear hb3
          by_cases h0 : anyE fd o nu tx ot = 0
          · have HS := Lib.hid (show TIs s fd o nu tx ot 0 from .inl ⟨rfl, h0, by have := HP.out.sound (by rw [← HFD.out]; exact HRV.out) (by rw [← HFD.out]; exact h0); rw [← HFD.out] at this; exact this, HI.out (by first | rfl | trivial)⟩)
            rw [h0]
            clear h0
            obtain ⟨p0, p1, p2, p3, p4⟩ := test_cells HT3.out
            go_wp2_with (first | ((with_reducible refine store_blk ?_ 23 (.tmp 2) (.tmp 60) ?_ HZ3.out (testC fd o nu tx ot) ?_ ?_ ?_ ?_ ?_ ?_); (iterate 4 rfl); (exact test_sz _ _ _ _ _); rfl; (exact test_one _ _ _ _ _)))
            refine bodyPost_ret (test_ret2 (fn := Tryd.f27) rfl _ _ w.heap.size _ rfl (HZ3.out.row _) rfl) rfl ?_
            exact ⟨fd, o, nu, tx, ot, 0, rfl, HS.out, by omega, HI.out (by first | rfl | trivial), below_row HB3.out (Nat.le_refl _) _⟩
          · have HR := Lib.hid (HP.out.bad (fun nu' tx' ot' hv => by
              rw [← HFD.out] at hv ⊢
              obtain ⟨rfl, rfl, rfl⟩ := HRV.out.unique hv
              exact h0))
            have b0 : (anyE fd o nu tx ot != 0) = true := by simpa using h0
            clear h0
            go_wp2_with ((with_reducible refine store_blk ?_ 23 (.tmp 2) (.tmp 59) ?_ HZ3.out (testC 0 0 0 ⟨#[]⟩ 0) ?_ ?_ ?_ ?_ ?_ ?_); (iterate 4 rfl); (exact test_sz _ _ _ _ _); rfl; (exact test_one _ _ _ _ _))
            refine bodyPost_ret (test_ret2 (fn := Tryd.f27) rfl _ _ w.heap.size _ rfl (HZ3.out.row _) rfl) rfl ?_
            exact ⟨0, 0, 0, ⟨#[]⟩, 0, 123, rfl, tis_bad HR.out, by decide, i64_zero, below_row HB3.out (Nat.le_refl _) _⟩
end Go.Proofs.YtnpaoepkpdileaaDoor

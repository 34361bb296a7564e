/- Texts of one proof, laid together. -/
import Derived.Test.YtbbihfafkpniiaaGreatDoorC24
import Derived.Test.YtbbihfafkpniiaaGreatDoorC11
import Derived.Test.YtbbihfafkpniiaaGreatDoorC12
import Derived.Deep.QuietTactic
import Derived.BigQuiet
import Derived.Test.YtbbihfafkpniiaaGreatDoorC23
import Derived.Test.YtbbihfafkpniiaaGreatDoorC13
/- Both Formats in one contract, and the law's agrees. -/
namespace Go.Proofs.YtbbihfafkpniiaaGreatDoor
open Go.RowKit
attribute [local irreducible] checkF watchB callsB firstE checkR cleanB callsOk textR headW maskS quoteS testS anyE permS catW listN actN cellsAc cellsLi keyT fmtR
set_option maxRecDepth 100000 in
set_option maxHeartbeats 4000000 in
theorem rformatR_bad (r : Rul) (A : Option Addr) (n c : Nat) (hn : n = r.ts.length) (hz : SizR r) (w : World) (hT : TestsAt w w.heap.size A r.ts) (h0 : checkR r ≠ 0) :
    Calls Tryz.prog 22 #[rulV r (.slice A n c)] w fun e w' => e = .returned (.tuple #[.string (fmtR r), .int .i64 (checkR r)]) ∧ Below w.heap.size w w' := by
  obtain ⟨HG0, HB0⟩ := rul_box w r (.slice A n c)
  have HV := Lib.hid (rcheckR r A c n hn hz (w.alloc (.cells (rulC r (.slice A n c)) 26)) ((hT.keep HB0 (Nat.le_refl _)).more HB0.size))
  have bn := ret_ne h0
  have HF := Lib.hid (fmt_bad h0)
  have HB := Lib.hid HB0
  clear HG0 HB0 hT h0 hz hn
  go_enter Tryz.func22, Tryz.ntmps22
  go_wp2_with fail
  refine HV.out.mono ?_
  rintro e w1 ⟨rfl, hb1⟩
  go_wp2_with fail
  go_ret2
  exact ⟨retSI HF.out.symm rfl, HB.out.trans (hb1.mono HB.out.size)⟩
/-- What both Formats return. -/
def fmtV (r : Rul) : Value := .tuple #[.string (fmtR r), .int .i64 (checkR r)]
theorem rformatR (r : Rul) (A : Option Addr) (n c : Nat) (hn : n = r.ts.length) (hz : SizR r) (hi : ∀ t ∈ r.ts, I64 t.nu) (w : World) (hT : TestsAt w w.heap.size A r.ts) :
    Calls Tryz.prog 22 #[rulV r (.slice A n c)] w fun e w' => e = .returned (fmtV r) ∧ Below w.heap.size w w' := by
  by_cases h0 : checkR r = 0
  · refine (rformatR_ok r A n c hn ⟨h0, hi⟩ w hT).mono ?_
    rintro e w1 ⟨rfl, hb⟩
    exact ⟨retSI (fmt_ok h0).symm h0.symm, hb⟩
  · exact rformatR_bad r A n c hn hz w hT h0
theorem vformatR (r : Rul) (A : Option Addr) (n c : Nat) (hn : n = r.ts.length) (hz : SizR r) (hi : ∀ t ∈ r.ts, I64 t.nu) (w : World) (hT : TestsAt w w.heap.size A r.ts) (hG : RGlob w) :
    Calls Tryz.prog 25 #[rulV r (.slice A n c)] w fun e w' => e = .returned (fmtV r) ∧ Below w.heap.size w w' := by
  by_cases h0 : checkR r = 0
  · refine (vformatR_ok r A n c hn ⟨h0, hi⟩ w hT hG).mono ?_
    rintro e w1 ⟨rfl, hb⟩
    exact ⟨retSI (fmt_ok h0).symm h0.symm, hb⟩
  · exact vformatR_bad r A n c hn hz w hT h0
set_option maxRecDepth 100000 in
set_option maxHeartbeats 8000000 in
theorem agreesR (r : Rul) (A : Option Addr) (n c : Nat) (hn : n = r.ts.length) (hz : SizR r) (hi : ∀ t ∈ r.ts, I64 t.nu) (w : World) (hT : TestsAt w w.heap.size A r.ts) (hG : RGlob w) :
    Calls Tryz.prog 12 #[rulV r (.slice A n c)] w fun e w' => e = .returned (.bool true) ∧ Below w.heap.size w w' := by
  obtain ⟨HG0, HB0⟩ := rul_box w r (.slice A n c)
  have st : RSt w (w.alloc (.cells (rulC r (.slice A n c)) 26)) r (.slice A n c) (.string ⟨#[]⟩) ⟨#[]⟩ := ⟨rfl, HG0, HB0⟩
  have ST := Lib.hid st
  have HTT := Lib.hid (fun (W : World) (h : Below w.heap.size w W) => (hT.keep h (Nat.le_refl _)).more h.size)
  have HVF := Lib.hid (fun (W : World) (h : Below w.heap.size w W) => vformatR r A n c hn hz hi W (HTT.out W h) (hG.below h))
  have HRF := Lib.hid (fun (W : World) (h : Below w.heap.size w W) => rformatR r A n c hn hz hi W (HTT.out W h))
  have HVC := Lib.hid (fun (W : World) (h : Below w.heap.size w W) => vcheckR r A c n hn hz W (HTT.out W h))
  have HRC := Lib.hid (fun (W : World) (h : Below w.heap.size w W) => rcheckR r A c n hn hz W (HTT.out W h))
  clear HG0 HB0 st hT hG hi hz hn
  go_enter Tryz.func12, Tryz.ntmps12
  go_wp2_with fail
  refine (HVF.out _ ST.out.low).mono ?_
  rintro e w1 ⟨rfl, hb1⟩
  have ST1 := Lib.hid (ST.out.below hb1)
  clear hb1 ST
  have c0 := RulB.c0 ST1.out.g
  have c1 := RulB.c1 ST1.out.g
  have c2 := RulB.c2 ST1.out.g
  have c3 := RulB.c3 ST1.out.g
  have c4 := RulB.c4 ST1.out.g
  have c5 := RulB.c5 ST1.out.g
  have c6 := RulB.c6 ST1.out.g
  have c7 := RulB.c7 ST1.out.g
  have HFV := Lib.hid (show fmtV r = .tuple #[.string (fmtR r), .int .i64 (checkR r)] from rfl)
  rw [HFV.out]
  generalize fmtR r = F at *
  generalize checkR r = E at *
  go_wp2_with fail
  refine (HRF.out _ ST1.out.low).mono ?_
  rintro e w2 ⟨rfl, hb2⟩
  have ST2 := Lib.hid (ST1.out.below hb2)
  clear hb2 ST1 c0 c1 c2 c3 c4 c5 c6 c7
  rw [HFV.out]
  go_upto_region 3 with (fail)
  have st0 := ST2.out.below (Below.refl _ _).drew
  refine wp_region_held_drew (S := (fun w' => RulB w' w.heap.size r (.slice A n c))) (by kernel_rfl) st0.g (fun hHeld => ?_)
  refine wpAnyH_take (i := 0) (v := ?_) rfl (by kernel_rfl) (by kernel_rfl) (by kernel_rfl) (fun _ _ _ h => h) (Or.inl ⟨by kernel_rfl, ?_⟩) hHeld ?_
  rotate_left
  · intro w hSw
    have k0 := RulB.c0 hSw
    have k1 := RulB.c1 hSw
    have k2 := RulB.c2 hSw
    have k3 := RulB.c3 hSw
    have k4 := RulB.c4 hSw
    have k5 := RulB.c5 hSw
    have k6 := RulB.c6 hSw
    have k7 := RulB.c7 hSw
    go_simp
    first | (with_reducible rfl) | rfl
  refine wpAnyH_take (i := 2) (v := ?_) rfl (by kernel_rfl) (by kernel_rfl) (by kernel_rfl) (fun _ _ _ h => h) (Or.inl ⟨by kernel_rfl, ?_⟩) hHeld ?_
  rotate_left
  · intro w hSw
    have k0 := RulB.c0 hSw
    have k1 := RulB.c1 hSw
    have k2 := RulB.c2 hSw
    have k3 := RulB.c3 hSw
    have k4 := RulB.c4 hSw
    have k5 := RulB.c5 hSw
    have k6 := RulB.c6 hSw
    have k7 := RulB.c7 hSw
    go_simp
    first | (with_reducible rfl) | rfl
  refine wpAnyH_ready (rs := [1]) (by kernel_rfl) (by simp) ?_
  refine AllReadyH.cons rfl (fun K hK => ?_) AllReadyH.nil
  go_simp
  go_at_call 27
  refine (HVC.out _ st0.low).mono ?_
  rintro e w3 ⟨rfl, hb⟩
  have st3 := st0.below hb
  clear hb
  go_simp
  refine hK.out _ _ st3.g (fun hHeld => ?_)
  clear hK K
  refine wpAnyH_ready (rs := [3]) (by kernel_rfl) (by simp) ?_
  refine AllReadyH.cons rfl (fun K hK => ?_) AllReadyH.nil
  go_simp
  go_at_call 30
  refine (HRC.out _ st3.low).mono ?_
  rintro e w4 ⟨rfl, hb⟩
  have st4 := st3.below hb
  clear hb
  go_simp
  refine hK.out _ _ st4.g (fun hHeld => ?_)
  clear hK K
  refine wpAnyH_take (i := 4) (v := ?_) rfl (by kernel_rfl) (by kernel_rfl) (by kernel_rfl) (fun _ _ _ h => h) (Or.inl ⟨by kernel_rfl, ?_⟩) hHeld ?_
  rotate_left
  · intro w hSw
    go_simp
    first | (with_reducible rfl) | rfl
  refine wpAnyH_take (i := 5) (v := ?_) rfl (by kernel_rfl) (by kernel_rfl) (by kernel_rfl) (fun _ _ _ h => h) (Or.inl ⟨by kernel_rfl, ?_⟩) hHeld ?_
  rotate_left
  · intro w hSw
    go_simp
    first | (with_reducible rfl) | rfl
  refine wpAnyH_take (i := 6) (v := ?_) rfl (by kernel_rfl) (by kernel_rfl) (by kernel_rfl) (fun _ _ _ h => h) (Or.inl ⟨by kernel_rfl, ?_⟩) hHeld ?_
  rotate_left
  · intro w hSw
    go_simp
    first | (with_reducible rfl) | rfl
  refine wpAnyH_take (i := 7) (v := ?_) rfl (by kernel_rfl) (by kernel_rfl) (by kernel_rfl) (fun _ _ _ h => h) (Or.inl ⟨by kernel_rfl, ?_⟩) hHeld ?_
  rotate_left
  · intro w hSw
    go_simp
    first | (with_reducible rfl) | rfl
  refine wpAnyH_take (i := 8) (v := ?_) rfl (by kernel_rfl) (by kernel_rfl) (by kernel_rfl) (fun _ _ _ h => h) (Or.inl ⟨by kernel_rfl, ?_⟩) hHeld ?_
  rotate_left
  · intro w hSw
    go_simp
    first | (with_reducible rfl) | rfl
  refine wpAnyH_take (i := 9) (v := ?_) rfl (by kernel_rfl) (by kernel_rfl) (by kernel_rfl) (fun _ _ _ h => h) (Or.inl ⟨by kernel_rfl, ?_⟩) hHeld ?_
  rotate_left
  · intro w hSw
    go_simp
    first | (with_reducible rfl) | rfl
  refine wpAnyH_take (i := 10) (v := ?_) rfl (by kernel_rfl) (by kernel_rfl) (by kernel_rfl) (fun _ _ _ h => h) (Or.inl ⟨by kernel_rfl, ?_⟩) hHeld ?_
  rotate_left
  · intro w hSw
    go_simp
    first | (with_reducible rfl) | rfl
  refine wpAnyH_take (i := 11) (v := ?_) rfl (by kernel_rfl) (by kernel_rfl) (by kernel_rfl) (fun _ _ _ h => h) (Or.inl ⟨by kernel_rfl, ?_⟩) hHeld ?_
  rotate_left
  · intro w hSw
    go_simp
    first | (with_reducible rfl) | rfl
  refine wpAnyH_take (i := 12) (v := ?_) rfl (by kernel_rfl) (by kernel_rfl) (by kernel_rfl) (fun _ _ _ h => h) (Or.inl ⟨by kernel_rfl, ?_⟩) hHeld ?_
  rotate_left
  · intro w hSw
    go_simp
    first | (with_reducible rfl) | rfl
  refine wpAnyH_take (i := 13) (v := ?_) rfl (by kernel_rfl) (by kernel_rfl) (by kernel_rfl) (fun _ _ _ h => h) (Or.inl ⟨by kernel_rfl, ?_⟩) hHeld ?_
  rotate_left
  · intro w hSw
    go_simp
    first | (with_reducible rfl) | rfl
  refine wpAnyH_take (i := 14) (v := ?_) rfl (by kernel_rfl) (by kernel_rfl) (by kernel_rfl) (fun _ _ _ h => h) (Or.inl ⟨by kernel_rfl, ?_⟩) hHeld ?_
  rotate_left
  · intro w hSw
    go_simp
    first | (with_reducible rfl) | rfl
  refine wpAnyH_take (i := 15) (v := ?_) rfl (by kernel_rfl) (by kernel_rfl) (by kernel_rfl) (fun _ _ _ h => h) (Or.inl ⟨by kernel_rfl, ?_⟩) hHeld ?_
  rotate_left
  · intro w hSw
    go_simp
    first | (with_reducible rfl) | rfl
  refine wpAnyH_done (by kernel_rfl) ?_ _
  go_wp2_with fail
  go_ret
  exact ⟨by go_simp, st4.low⟩
end Go.Proofs.YtbbihfafkpniiaaGreatDoor
/- Parse of package field: the test that Format writes as s, or the error. -/
namespace Go.Proofs.YtbbihfafkpniiaaGreatDoor
open Go.RowKit
theorem vprefixF (t p : ByteArray) (w : World) : Calls Tryz.prog 138 #[.string t, .string p] w fun e w' => e = .returned (.bool (Lib.hasPrefix t.data.toList p.data.toList)) ∧ w' = w :=
  (Tryz.strings_HasPrefix t p w).mono fun _ _ h => ⟨h.1, h.2⟩
def FParse (s : ByteArray) (w : World) (e : Ending) (w' : World) : Prop := ∃ (fd op nu : Int) (tx : ByteArray) (ot er : Int), e = .returned (.tuple #[testV fd op nu tx ot, .int .i64 er]) ∧ TIs s fd op nu tx ot er ∧ tx.size ≤ 640 ∧ I64 nu ∧ Below w.heap.size w w'
theorem tis_bad {s : ByteArray} (h : NoTest s) : TIs s 0 0 0 ⟨#[]⟩ 0 123 := .inr ⟨rfl, rfl, rfl, rfl, rfl, rfl, h⟩
theorem ext0 (s : ByteArray) (i : Nat) : (s.extract 0 i).data.toList = s.data.toList.take i := by rw [Lib.extract_data]; simp
theorem ext1 (s : ByteArray) (i : Nat) : (s.extract i s.size).data.toList = s.data.toList.drop i := by
  rw [Lib.extract_data, List.take_of_length_le (by rw [List.length_drop, bsz']; omega)]
theorem opAt_zero (l : List UInt8) : opAt l 0 = 0 := rfl
theorem test_one (fd op nu : Int) (tx : ByteArray) (ot : Int) : (testC fd op nu tx ot).all (·.oneCell') = true := by simp [Value.oneCell']
theorem results_cell_tmpF {P : Program} {fn : Func} {p q : Tmp} {ty : TypeId} (h : fn.results = #[.cell p ty, .tmp q]) (tmps : Array Value) (w : World) (g : Nat) (t : TypeId) (cs : Array Value) (d : TypeDesc)
    (hp : tmps.getD p undef = .pointer (some ⟨g, 0, none⟩)) (hg : Blk w g t cs) (hu : P.underlying ty = some d) (hd : (match d with | .struct _ | .array _ _ => true | _ => false) = true) (hi : (P.info? ty).map (·.size) = some cs.size) :
    (results fn tmps).run P w = .ok (.tuple #[.agg cs, tmps.getD q undef]) w := by
  have hp' : tmps[p]?.getD undef = .pointer (some ⟨g, 0, none⟩) := by simpa using hp
  simp [results, h, hp', asAddr, run_loadVar_row w g t ty cs (0, 0) d hg hu hd hi]
theorem test_ret2 {fn : Func} (h : fn.results = #[.cell 2 40, .tmp 3]) (tmps : Array Value) (w : World) (g : Nat) (cs : Array Value) (hp : tmps.getD 2 undef = .pointer (some ⟨g, 0, none⟩)) (hg : Blk w g 40 cs) (h5 : cs.size = 5) :
    (results fn tmps).run Tryz.prog w = .ok (.tuple #[.agg cs, tmps.getD 3 undef]) w :=
  results_cell_tmpF h tmps w g _ _ _ hp hg Tryz.underlying40 rfl (by rw [h5]; exact test_sz 0 0 0 ⟨#[]⟩ 0)
theorem opAt_yes {l : List UInt8} {k j : Nat} (hj : j = k + 1) (h1 : Lib.hasPrefix l (opN j).data.toList = true) (h2 : (opN (opAt l k)).size < (opN j).size) : opAt l j = j := by
  subst hj
  exact if_pos ⟨List.isPrefixOf_iff_prefix.1 h1, h2⟩
theorem opAt_no {l : List UInt8} {k j : Nat} (hj : j = k + 1) (h : Lib.hasPrefix l (opN j).data.toList = false ∨ ¬ (opN (opAt l k)).size < (opN j).size) : opAt l j = opAt l k := by
  subst hj
  refine if_neg (fun hc => ?_)
  rcases h with h | h
  · have := List.isPrefixOf_iff_prefix.2 hc.1; unfold Lib.hasPrefix at h; rw [this] at h; cases h
  · exact h hc.2
theorem cut_op {l : List UInt8} {R : ByteArray} (hR : R.data.toList = l) (k : Nat) : (opN (opAt l k)).size ≤ R.size ∧ l = (opN (opAt l k)).data.toList ++ (R.extract (opN (opAt l k)).size R.size).data.toList := by
  have hp := opAt_prefix l k
  have hl := hp.length_le
  rw [bsz', ← hR, bsz'] at hl
  refine ⟨by rw [hR] at hl; exact hl, ?_⟩
  generalize opN (opAt l k) = O at *
  obtain ⟨t, ht⟩ := hp
  rw [ext1, hR, ← bsz' O, ← ht, List.drop_append_length]
attribute [local irreducible] textB numF numS unqS unqE checkF anyE testS fieldN opN opAt cellsN cellsO
set_option maxRecDepth 100000 in
set_option maxHeartbeats 4000000 in
theorem vparseF (s : ByteArray) (hs : s.size ≤ 1000000) (w : World) (hn : FNames w) (ho : FOps w) (he : Env w) : Calls Tryz.prog 117 #[.string s] w (FParse s w) := by
  have HN := Lib.hid (fun (W : World) (h : Below w.heap.size w W) => Glob.below hn h (Nat.le_refl _))
  have HO := Lib.hid (fun (W : World) (h : Below w.heap.size w W) => Glob.below ho h (Nat.le_refl _))
  have HZ := Blk.new w (testC 0 0 0 ⟨#[]⟩ 0) 40
  have HB0 : Below w.heap.size w (w.alloc (.cells (testC 0 0 0 ⟨#[]⟩ 0) 40)) := (Below.refl _ _).alloc (Nat.le_refl _) _
  have HNW := Lib.hid hn
  have HEW := Lib.hid he
  clear hn ho he
  go_enter Tryz.func117, Tryz.ntmps117
  go_wp2_with fail
  refine (vindexany s _ hs).mono ?_
  rintro e w1 ⟨hb1, (⟨rfl, h1⟩ | ⟨i, h1, rfl, h2, h3⟩)⟩
  · have HZ1 := Lib.hid (HZ.below hb1)
    have HB1 := Lib.hid (HB0.trans (hb1.mono HB0.size))
    have HR := Lib.hid (no_pieces h1)
    clear h1 hb1 HZ HB0
    go_wp2_with ((with_reducible refine store_blk ?_ 40 (.tmp 2) (.tmp 12) ?_ HZ1.out (testC 0 0 0 ⟨#[]⟩ 0) ?_ ?_ ?_ ?_ ?_ ?_); (iterate 4 rfl); (exact test_sz _ _ _ _ _); rfl; (exact test_one _ _ _ _ _))
    refine bodyPost_ret (test_ret2 (fn := Tryz.f117) rfl _ _ w.heap.size _ rfl (HZ1.out.row _) rfl) rfl ?_
    exact ⟨0, 0, 0, ⟨#[]⟩, 0, 123, rfl, tis_bad HR.out, by decide, i64_zero, below_row HB1.out (Nat.le_refl _) _⟩
  · have HZ1 := Lib.hid (HZ.below hb1)
    have HB1 := Lib.hid (HB0.trans (hb1.mono HB0.size))
    have HH2 := Lib.hid (And.intro h2 h3)
    have i0 : (0 : Int) ≤ (i : Int) := by omega
    have i1 : (i : Int) ≤ (s.size : Int) := by omega
    have hlt1 := HZ1.out.lt
    clear h2 h3 hb1 HZ HB0
    go_wp2_with fail
    refine (vnumF (s.extract 0 i) _ (HN.out _ HB1.out)).mono ?_
    rintro e w' ⟨rfl, rfl⟩
    have HG0 := Blk.new w1 (testC 0 0 0 ⟨#[]⟩ 0) 40
    have HZ2 := HZ1.out.alloc (.cells (testC 0 0 0 ⟨#[]⟩ 0) 40)
    have HB2 : Below w.heap.size w (w1.alloc (.cells (testC 0 0 0 ⟨#[]⟩ 0) 40)) := HB1.out.alloc HB1.out.size _
    go_wp2_with ((with_reducible refine store_blk ?_ 40 (.tmp 5) (.tmp 17) ?_ HG0 (testC (numF (s.extract 0 i)) 0 0 ⟨#[]⟩ 0) ?_ ?_ ?_ ?_ ?_ ?_); (iterate 4 rfl); (exact test_sz _ _ _ _ _); rfl; (exact test_one _ _ _ _ _))
    have HG3 := HG0.row (testC (numF (s.extract 0 i)) 0 0 ⟨#[]⟩ 0)
    have HZ3 := HZ2.row_other (testC (numF (s.extract 0 i)) 0 0 ⟨#[]⟩ 0) (show w.heap.size ≠ w1.heap.size by omega)
    have HB3 := below_row HB2 (show w.heap.size ≤ w1.heap.size by omega) (testC (numF (s.extract 0 i)) 0 0 ⟨#[]⟩ 0)
    have hg1 : w.heap.size ≤ w1.heap.size := by omega
    obtain ⟨N, hN⟩ : ∃ N, N = s.extract 0 i := ⟨_, rfl⟩
    obtain ⟨R, hR⟩ : ∃ R, R = s.extract i s.size := ⟨_, rfl⟩
    have HNE := Lib.hid hN
    have HRE := Lib.hid hR
    have hRs : R.size ≤ 1000000 := by rw [hR]; simp; omega
    rw [← hN] at HG3 HZ3 HB3 ⊢
    rw [← hR]
    obtain ⟨l, hl⟩ : ∃ l, l = R.data.toList := ⟨_, rfl⟩
    have HL := Lib.hid hl
    clear hN hR HG0 HZ2 HB2 HZ1 HB1 hl
    obtain ⟨fd, hfd⟩ : ∃ fd, fd = numF N := ⟨_, rfl⟩
    have HFD := Lib.hid hfd
    rw [← hfd] at HG3 HZ3 HB3 ⊢
    clear hfd
    go_loopw [7] (fun v wr => ∃ k : Nat, k ≤ 8 ∧ v = .int .i64 ((k + 1 : Nat) : Int) ∧ Blk wr w1.heap.size 40 (testC fd (opAt l k : Nat) 0 ⟨#[]⟩ 0) ∧ Blk wr w.heap.size 40 (testC 0 0 0 ⟨#[]⟩ 0) ∧ Below w.heap.size w wr) (fun v _ => 9 - (intOf v).toNat)
    case atStart => exact ⟨0, by omega, rfl, by rw [opAt_zero]; exact HG3, HZ3, HB3⟩
    case round =>
      obtain ⟨k, hk, rfl, hT, hZ, hb⟩ := hrel
      clear HG3 HZ3 HB3
      have hk2 := opAt_le l k
      obtain ⟨q0, q1, q2, q3, q4⟩ := test_cells hT
      by_cases hlt : k < 8
      · have n1 := FOps.at (HO.out _ hb) (k := k + 1) (by omega)
        have n2 := FOps.at (HO.out _ hb) (k := opAt l k) (by omega)
        obtain ⟨j, hj⟩ : ∃ j, j = k + 1 := ⟨_, rfl⟩
        have HJ := Lib.hid hj
        have j1 : (j : Int) ≤ 8 := by omega
        have j2 : (j : Int) < 9 := by omega
        have j0 : (0 : Int) ≤ (j : Int) := by omega
        rw [← hj] at n1 ⊢
        clear hj
        obtain ⟨o, ho⟩ : ∃ o, o = opAt l k := ⟨_, rfl⟩
        have HOP := Lib.hid ho
        rw [← ho] at n2 hT hk2 q1
        have o1 : (o : Int) < 9 := by omega
        have o0 : (0 : Int) ≤ (o : Int) := by omega
        have f1 := hT.free 1
        have HT := Lib.hid hT
        have HZ := Lib.hid hZ
        have HB := Lib.hid hb
        clear ho hT hZ hb
        cases hp : Lib.hasPrefix R.data.toList (opN j).data.toList
        · have HP := Lib.hid (show ∀ W, Calls Tryz.prog 138 #[.string R, .string (opN j)] W fun e w' => e = .returned (.bool false) ∧ w' = W from fun W => (vprefixF R (opN j) W).mono fun _ _ h => ⟨by rw [h.1, hp], h.2⟩)
          have HN2 := Lib.hid (show opAt l j = o by rw [HOP.out]; exact opAt_no HJ.out (.inl (by rw [HL.out]; exact hp)))
          clear hp
          go_wp2_with fail
          go_quiet ((go_at_call 138; exact Calls.quiet_of_same (HP.out _)))
          go_wp2_with fail
          go_roundw
          case rel => exact ⟨j, by omega, by go_num, by rw [HN2.out]; exact HT.out, HZ.out, below_drewN HB.out _⟩
          case measure => simp [intOf]; omega
        · have HP := Lib.hid (show ∀ W, Calls Tryz.prog 138 #[.string R, .string (opN j)] W fun e w' => e = .returned (.bool true) ∧ w' = W from fun W => (vprefixF R (opN j) W).mono fun _ _ h => ⟨by rw [h.1, hp], h.2⟩)
          by_cases hsz : (opN o).size < (opN j).size
          · have HN2 := Lib.hid (show opAt l j = j from opAt_yes HJ.out (by rw [HL.out]; exact hp) (by rw [← HOP.out]; exact hsz))
            have d1 : decide ((opN o).size < (opN j).size) = true := decide_eq_true hsz
            clear hp hsz
            go_wp2_with fail
            go_quiet ((go_at_call 138; exact Calls.quiet_of_same (HP.out _)))
            go_wp2_with fail
            go_roundw
            case rel => exact ⟨j, by omega, by go_num, by rw [HN2.out]; exact (HT.out.drewN _).put 1 (.int .i64 (j : Int)), (HZ.out.drewN _).put_other (p := ⟨w1.heap.size, 1, none⟩) _ (show w.heap.size ≠ w1.heap.size by omega), (below_drewN HB.out _).setCell (p := ⟨w1.heap.size, 1, none⟩) hg1 _⟩
            case measure => simp [intOf]; omega
          · have HN2 := Lib.hid (show opAt l j = o by rw [HOP.out]; exact opAt_no HJ.out (.inr (by rw [← HOP.out]; exact hsz)))
            have d1 : decide ((opN o).size < (opN j).size) = false := decide_eq_false hsz
            clear hp hsz
            go_wp2_with fail
            go_quiet ((go_at_call 138; exact Calls.quiet_of_same (HP.out _)))
            go_wp2_with fail
            go_roundw
            case rel => exact ⟨j, by omega, by go_num, by rw [HN2.out]; exact HT.out, HZ.out, below_drewN HB.out _⟩
            case measure => simp [intOf]; omega
      · obtain rfl : k = 8 := by omega
        have hcut := cut_op HL.out.symm 8
        have n2 := FOps.at (HO.out _ hb) (k := opAt l 8) (by omega)
        obtain ⟨o, ho⟩ : ∃ o, o = opAt l 8 := ⟨_, rfl⟩
        have HOP := Lib.hid ho
        rw [← ho] at n2 hT hk2 q1 hcut
        have o1 : (o : Int) < 9 := by omega
        have o0 : (0 : Int) ≤ (o : Int) := by omega
        obtain ⟨hc1, hc2⟩ := hcut
        obtain ⟨V, hV⟩ : ∃ V, V = R.extract (opN o).size R.size := ⟨_, rfl⟩
        have hVs : V.size ≤ 1000000 := by rw [hV]; simp; omega
        rw [← hV] at hc2
        have hv2 := hV.symm
        have HP := Lib.hid (show Pieces s N V o from ⟨⟨l, by rw [HNE.out, ext0, HL.out, HRE.out, ext1, List.take_append_drop], by rw [HL.out, HRE.out, ext1]; exact HH2.out.2, HOP.out, hc2⟩, by rw [HNE.out, ext0]; exact HH2.out.1⟩)
        have oz0 : (0 : Int) ≤ ((opN o).size : Int) := by omega
        have oz1 : ((opN o).size : Int) ≤ (R.size : Int) := by omega
        have HT := Lib.hid hT
        have HZ := Lib.hid hZ
        have HB := Lib.hid hb
        clear ho hT hZ hb hc2 hc1 hV
        go_wp2_with fail
        clear hv2 q0 q1 q2 q3 q4 n2
        refine (vreadF w w1.heap.size hg1 fd o V hVs _ HB.out HT.out HNW.out HEW.out).mono ?_
        rintro e w2 ⟨ok, nu, tx, ot, rfl, hT2, hy, hn, hi, hx, hgo, hb2⟩
        have HZ2 := Lib.hid (HZ.out.grown hgo (by intro e; injection e with e; omega))
        have HT2 := Lib.hid hT2
        have HB2 := Lib.hid hb2
        have HY := Lib.hid hy
        have HNO := Lib.hid hn
        have HI := Lib.hid hi
        clear hT2 hgo hb2 hy hn hi
        cases ok
        · have HR := Lib.hid (HP.out.bad (fun nu tx ot hv => absurd (by rw [HFD.out]; exact hv) (HNO.out rfl nu tx ot)))
          go_wp2_with ((with_reducible refine store_blk ?_ 40 (.tmp 2) (.tmp 59) ?_ HZ2.out (testC 0 0 0 ⟨#[]⟩ 0) ?_ ?_ ?_ ?_ ?_ ?_); (iterate 4 rfl); (exact test_sz _ _ _ _ _); rfl; (exact test_one _ _ _ _ _))
          refine bodyPost_ret (test_ret2 (fn := Tryz.f117) rfl _ _ w.heap.size _ rfl (HZ2.out.row _) rfl) rfl ?_
          exact ⟨0, 0, 0, ⟨#[]⟩, 0, 123, rfl, tis_bad HR.out, by decide, i64_zero, below_row HB2.out (Nat.le_refl _) _⟩
        · have HRV := Lib.hid (HY.out rfl)
          have hxm : tx.size ≤ maxLen := by unfold maxLen; omega
          obtain ⟨p0, p1, p2, p3, p4⟩ := test_cells HT2.out
          go_wp2_with fail
          clear p0 p1 p2 p3 p4
          refine (vanyF fd o nu tx ot hxm _).mono ?_
          rintro e w3 ⟨rfl, hb3⟩
          have HT3 := Lib.hid (HT2.out.below hb3)
          have HZ3 := Lib.hid (HZ2.out.below hb3)
          have HB3 := Lib.hid (below_then HB2.out hb3)
          clear hb3
          by_cases h0 : anyE fd o nu tx ot = 0
          · have HS := Lib.hid (show TIs s fd o nu tx ot 0 from .inl ⟨rfl, h0, by have := HP.out.sound (by rw [← HFD.out]; exact HRV.out) (by rw [← HFD.out]; exact h0); rw [← HFD.out] at this; exact this, HI.out (by first | rfl | trivial)⟩)
            rw [h0]
            clear h0
            obtain ⟨p0, p1, p2, p3, p4⟩ := test_cells HT3.out
            go_wp2_with (first | ((with_reducible refine store_blk ?_ 40 (.tmp 2) (.tmp 60) ?_ HZ3.out (testC fd o nu tx ot) ?_ ?_ ?_ ?_ ?_ ?_); (iterate 4 rfl); (exact test_sz _ _ _ _ _); rfl; (exact test_one _ _ _ _ _)))
            refine bodyPost_ret (test_ret2 (fn := Tryz.f117) rfl _ _ w.heap.size _ rfl (HZ3.out.row _) rfl) rfl ?_
            exact ⟨fd, o, nu, tx, ot, 0, rfl, HS.out, by omega, HI.out (by first | rfl | trivial), below_row HB3.out (Nat.le_refl _) _⟩
          · have HR := Lib.hid (HP.out.bad (fun nu' tx' ot' hv => by
              rw [← HFD.out] at hv ⊢
              obtain ⟨rfl, rfl, rfl⟩ := HRV.out.unique hv
              exact h0))
            have b0 : (anyE fd o nu tx ot != 0) = true := by simpa using h0
            clear h0
            go_wp2_with ((with_reducible refine store_blk ?_ 40 (.tmp 2) (.tmp 59) ?_ HZ3.out (testC 0 0 0 ⟨#[]⟩ 0) ?_ ?_ ?_ ?_ ?_ ?_); (iterate 4 rfl); (exact test_sz _ _ _ _ _); rfl; (exact test_one _ _ _ _ _))
            refine bodyPost_ret (test_ret2 (fn := Tryz.f117) rfl _ _ w.heap.size _ rfl (HZ3.out.row _) rfl) rfl ?_
            exact ⟨0, 0, 0, ⟨#[]⟩, 0, 123, rfl, tis_bad HR.out, by decide, i64_zero, below_row HB3.out (Nat.le_refl _) _⟩
end Go.Proofs.YtbbihfafkpniiaaGreatDoor
/- What Parse of rules returns: plain facts. -/
namespace Go.Proofs.YtbbihfafkpniiaaGreatDoor
open Go.RowKit
/-- The rule that a text says, or the error. -/
def RIs (s : ByteArray) (r : Rul) (er : Int) : Prop := (er = 0 ∧ GoodR r ∧ (textR r = s ∨ (shortB r = true ∧ shortT r = s))) ∨ (er = 136 ∧ r = zeroR ∧ ∀ r0, GoodR r0 → textR r0 ≠ s ∧ (shortB r0 = true → shortT r0 ≠ s))
/-- What Parse leaves. -/
def RParsePost (s : ByteArray) (w : World) (e : Ending) (w' : World) : Prop :=
  ∃ (r : Rul) (A : Option Addr) (n c : Nat) (er : Int), e = .returned (.tuple #[rulV r (.slice A n c), .int .i64 er]) ∧ n = r.ts.length ∧ RIs s r er ∧ TestsAt w' w'.heap.size A r.ts ∧ Below w.heap.size w w'
theorem short_inj {r q : Rul} (hr : shortB r = true) (hq : shortB q = true) (e : shortT r = shortT q) : r = q := by
  have := words_of_short e (isW_short q)
  obtain ⟨a1, a2, a3, a4, a5, a6⟩ := shortB_spec hr
  obtain ⟨b1, b2, b3, b4, b5, b6⟩ := shortB_spec hq
  obtain ⟨x0, x1, x2, x3, x4⟩ := short_words hr this
  obtain ⟨y0, y1, y2, y3, y4⟩ := short_words hq (ws := flagW q.wa :: restW q) rfl
  have e0 : flagW r.wa = flagW q.wa := Option.some.inj (x0.symm.trans y0)
  have e1 : quoteS r.pa = quoteS q.pa := Option.some.inj (x1.symm.trans y1)
  have e3 : permS r.pe = permS q.pe := Option.some.inj (x3.symm.trans y3)
  obtain ⟨f1, f2⟩ := flag_wa hr
  obtain ⟨g1, g2⟩ := flag_wa hq
  have hwa : r.wa = q.wa := by
    by_cases h : flagW r.wa = fT
    · rw [f1 h, g1 (by rw [← e0]; exact h)]
    · rw [f2 h, g2 (by rw [← e0]; exact h)]
  rcases watch_ok (checkR_zero a1) with ⟨z, _⟩ | ⟨_, _, _, z4, z5, z6⟩
  · exact absurd z a2
  rcases watch_ok (checkR_zero b1) with ⟨z, _⟩ | ⟨_, _, _, u4, u5, u6⟩
  · exact absurd z b2
  have hpa : r.pa = q.pa := quoteS_injF (by omega) (by omega) e1
  have hpe : r.pe = q.pe := permS_inj ⟨z5, z6⟩ ⟨u5, u6⟩ e3
  have hke : r.ke = q.ke := by
    rcases x4 with ⟨l1, l2⟩ | ⟨l1, _, l3, l4⟩
    · rcases y4 with ⟨m1, m2⟩ | ⟨m1, _, m3, m4⟩
      · rw [l2, m2]
      · omega
    · rcases y4 with ⟨m1, m2⟩ | ⟨m1, _, m3, m4⟩
      · omega
      · exact quoteS_injF (by omega) (by omega) (Option.some.inj (l3.symm.trans m3))
  cases r; cases q; simp at *; simp [*]
theorem RIs.unique {s : ByteArray} {r q : Rul} {e f : Int} (h : RIs s r e) (k : RIs s q f) : r = q ∧ e = f := by
  rcases h with ⟨rfl, h1, h2⟩ | ⟨rfl, rfl, h2⟩
  · rcases k with ⟨rfl, k1, k2⟩ | ⟨rfl, rfl, k2⟩
    · refine ⟨?_, rfl⟩
      rcases h2 with h2 | ⟨h2, h3⟩
      · rcases k2 with k2 | ⟨k2, k3⟩
        · exact text_inj h1 k1 (h2.trans k2.symm)
        · exact (text_short (h2.trans k3.symm)).elim
      · rcases k2 with k2 | ⟨k2, k3⟩
        · exact (text_short (k2.trans h3.symm)).elim
        · exact short_inj h2 k2 (h3.trans k3.symm)
    · rcases h2 with h2 | ⟨h2, h3⟩
      · exact absurd h2 (k2 _ h1).1
      · exact absurd h3 ((k2 _ h1).2 h2)
  · rcases k with ⟨rfl, k1, k2⟩ | ⟨rfl, rfl, k2⟩
    · rcases k2 with k2 | ⟨k2, k3⟩
      · exact absurd k2 (h2 _ k1).1
      · exact absurd k3 ((h2 _ k1).2 k2)
    · exact ⟨rfl, rfl⟩
/-- A shorthand that Check accepts. -/
theorem hand_good {r : Rul} (h : HandR r) (hc : checkR r = 0) : GoodR r ∧ shortB r = true := by
  refine ⟨⟨hc, fun t ht => by rw [h.ts] at ht; cases ht⟩, ?_⟩
  unfold shortB
  simp only [Bool.and_eq_true, decide_eq_true_eq]
  exact ⟨hc, by rcases h.wa with e | e <;> omega, h.li, h.ac, by rw [h.ts]; rfl, h.ca⟩
theorem hand_siz {r : Rul} (h : HandR r) : SizR r := ⟨by rw [h.ca]; decide, by have := h.pa; omega, by have := h.ke; omega, (fun t ht => by rw [h.ts] at ht; cases ht), by rw [h.ts]; simp⟩
theorem no_hand {s : ByteArray} {ws : List ByteArray} {r : Rul} {n k : Nat} {b : Bool} (hw : IsW 32 s ws) (h0 : wordAt ws 0 = fW ∨ wordAt ws 0 = fT)
    (hc : ∀ r0, shortB r0 = true → ws = flagW r0.wa :: restW r0 → r = r0 ∧ k = n ∧ b = false) (hno : ¬ (b = false ∧ k = n ∧ checkR r = 0 ∧ shortT r = s)) : RIs s zeroR 136 := by
  refine .inr ⟨rfl, rfl, fun r0 hg => ⟨fun e => ?_, fun hs e => ?_⟩⟩
  · have := words_of_text e hw
    have h1 : wordAt ws 0 = fA := by rw [this]; rfl
    rcases h0 with h | h <;> (rw [h1] at h; exact absurd h (by decide))
  · obtain ⟨e1, e2, e3⟩ := hc r0 hs (words_of_short e hw)
    subst e1
    exact hno ⟨e3, e2, (shortB_spec hs).1, e⟩
def SplitPost (s : ByteArray) (w : World) (e : Ending) (w' : World) : Prop :=
  ∃ (x : ByteArray) (R : List ByteArray) (ad : Addr), e = .returned (.slice (some ad) (R.length + 1) (R.length + 1)) ∧ IsW 32 s (x :: R) ∧ StrsAt w' w'.heap.size (some ad) (x :: R) ∧ Below w.heap.size w w'
theorem strs_whole (w : World) (L : List ByteArray) (t : TypeId) : StrsAt (w.alloc (.cells (L.map Value.string).toArray t)) (w.alloc (.cells (L.map Value.string).toArray t)).heap.size (some ⟨w.heap.size, 0, none⟩) L := fun k hk => by
  refine ⟨_, rfl, by simp, ?_⟩
  have e : (⟨w.heap.size, 0, none⟩ : Addr).add k = ⟨w.heap.size, k, none⟩ := by
    unfold Addr.add
    split
    · rename_i h; rw [h]
    · simp
  rw [e, (Blk.new w (L.map Value.string).toArray t).cell]
  simp [List.getElem?_eq_getElem hk]
theorem vsplit (s : ByteArray) (hs : s.size ≤ 100000) (w : World) (he : Mx w) :
    Calls Tryz.prog 50 #[.string s, .string ⟨#[32]⟩] w (SplitPost s w) := by
  obtain ⟨m, hm⟩ := he
  refine (Tryz.strings_Split s ⟨#[32]⟩ m w (by omega) hm (by decide)).mono ?_
  rintro e w' ⟨rfl, rfl⟩
  have hw := isW_split 32 _ s rfl
  have hl := Lib.splitB_all ⟨#[32]⟩ (by decide) 0 _ s rfl
  have hS := strs_whole w (Lib.splitB ⟨#[32]⟩ 0 (Lib.countB s ⟨#[32]⟩) s) 9
  generalize Lib.splitB ⟨#[32]⟩ 0 (Lib.countB s ⟨#[32]⟩) s = L at *
  generalize Lib.countB s ⟨#[32]⟩ = k at *
  cases L with
  | nil => exact absurd rfl hw.ne
  | cons x R =>
    obtain rfl : R.length = k := by simpa using hl
    exact ⟨x, R, _, rfl, hw, hS, (Below.refl _ _).alloc (Nat.le_refl _) _⟩
theorem rd_new (w1 : World) (ad : Addr) (ws : List ByteArray) (n : Nat) (hn : n = ws.length) (ht : n ≤ 100001) (hS : StrsAt w1 w1.heap.size (some ad) ws) :
    RdS (w1.alloc (.cells (rdC (.slice (some ad) n n) 0 false) 74)) w1.heap.size (some ad) n n ws 0 false :=
  ⟨Blk.new w1 _ _, hS.keep ((Below.refl w1.heap.size w1).alloc (Nat.le_refl _) _) (Nat.le_refl _), hn, ht, Nat.zero_le _⟩
theorem load_blk_gR {P : Program} {ops : Array Oper} {rest : List Oper} {o : Oper} {a : Act} {w : World} {Q : Exit → Act → World → Prop} (hgd : Region.wanted o (yielded ops a.tmps) = true) (ty : TypeId) (x : Operand) (ho : o.op = .load ty x)
    {g : Nat} {t : TypeId} {cs : Array Value} (hg : Blk w g t cs) (hx : a.eval x = .pointer (some ⟨g, 0, none⟩)) (d : TypeDesc)
    (hu : P.underlying ty = some d) (hd : (match d with | .struct _ | .array _ _ => true | _ => false) = true) (hi : (P.info? ty).map (·.size) = some cs.size)
    (h : wpList P ops Q rest (a.put o.dst (.agg cs)) w) : wpList P ops Q (o :: rest) a w :=
  wpList_step fun K hK => by simp only [hgd, if_true]; exact wp_load_row ty x ho g hx t cs (0, 0) d hg hu hd hi (hK _ _ h)
/-- What the test behind the reading says. -/
def VerdR (b : Bool) (k n : Nat) (r : Rul) (v : Value) : Prop := ∃ t : Bool, v = .bool t ∧ (t = false → b = false ∧ k = n ∧ checkR r = 0) ∧ (t = true → ¬ (b = false ∧ k = n ∧ checkR r = 0))
theorem verd_bad {k n : Nat} {r : Rul} : VerdR true k n r (.bool true) := ⟨true, rfl, fun h => absurd h (by decide), fun _ h => absurd h.1 (by decide)⟩
theorem verd_at {b : Bool} {k n : Nat} {r : Rul} (h : k ≠ n) : VerdR b k n r (.bool true) := ⟨true, rfl, fun h => absurd h (by decide), fun _ hh => h hh.2.1⟩
theorem verd_chk {b : Bool} {k n : Nat} {r : Rul} (h : checkR r ≠ 0) : VerdR b k n r (.bool true) := ⟨true, rfl, fun h => absurd h (by decide), fun _ hh => h hh.2.2⟩
theorem verd_ok {k n : Nat} {r : Rul} (h1 : k = n) (h : checkR r = 0) : VerdR false k n r (.bool false) := ⟨false, rfl, fun _ => ⟨rfl, h1, h⟩, fun h => absurd h (by decide)⟩
/-- What Parse keeps: the block of the result, the reader. -/
structure PaSt (w wr : World) (g : Nat) (A : Option Addr) (n c : Nat) (ws : List ByteArray) (k : Nat) (b : Bool) : Prop where
  z : RulB wr w.heap.size zeroR noT
  rd : RdS wr g A n c ws k b
  low : Below w.heap.size w wr
  lt : w.heap.size < g
/-- .. and the block of the rule. -/
structure QaSt (w wr : World) (g : Nat) (A : Option Addr) (n c : Nat) (ws : List ByteArray) (k : Nat) (b : Bool) (gr : Nat) (r : Rul) (T : Option Addr) (tn tc : Nat) : Prop where
  p : PaSt w wr g A n c ws k b
  x : RulB wr gr r (.slice T tn tc)
  t : TestsAt wr wr.heap.size T r.ts
  lt : g < gr
section
variable {w wr w' : World} {g n c k gr tn tc : Nat} {A T : Option Addr} {ws : List ByteArray} {b : Bool} {r : Rul}
theorem PaSt.below (h : PaSt w wr g A n c ws k b) (hb : Below wr.heap.size wr w') : PaSt w w' g A n c ws k b := ⟨Blk.below h.z hb, h.rd.below hb, below_then h.low hb, h.lt⟩
theorem PaSt.drewN (h : PaSt w wr g A n c ws k b) (m : Nat) : PaSt w (wr.drewN m) g A n c ws k b := h.below (below_drewN (Below.refl _ _) m)
theorem PaSt.alloc (h : PaSt w wr g A n c ws k b) (o : Obj) : PaSt w (wr.alloc o) g A n c ws k b := h.below ((Below.refl _ _).alloc (Nat.le_refl _) o)
theorem PaSt.to {k' : Nat} {b' : Bool} (h : PaSt w wr g A n c ws k b) (hr : RdS w' g A n c ws k' b') (hb : Below g wr w') : PaSt w w' g A n c ws k' b' := ⟨Blk.keep h.z hb h.lt, hr, h.low.trans (hb.mono (by have := h.lt; omega)), h.lt⟩
theorem QaSt.below (h : QaSt w wr g A n c ws k b gr r T tn tc) (hb : Below wr.heap.size wr w') : QaSt w w' g A n c ws k b gr r T tn tc := ⟨h.p.below hb, Blk.below h.x hb, (h.t.keep hb (Nat.le_refl _)).more hb.size, h.lt⟩
theorem QaSt.drewN (h : QaSt w wr g A n c ws k b gr r T tn tc) (m : Nat) : QaSt w (wr.drewN m) g A n c ws k b gr r T tn tc := h.below (below_drewN (Below.refl _ _) m)
theorem QaSt.drew (h : QaSt w wr g A n c ws k b gr r T tn tc) : QaSt w wr.drew g A n c ws k b gr r T tn tc := h.below (Below.refl _ _).drew
theorem PaSt.row {r0 : Rul} {v0 : Value} (h : PaSt w wr g A n c ws k b) (hx : RulB wr gr r0 v0) (hg : g < gr) (r : Rul) (T : Option Addr) (tn tc : Nat) (ht : TestsAt (wr.setRow gr (rulC r (.slice T tn tc))) wr.heap.size T r.ts) : QaSt w (wr.setRow gr (rulC r (.slice T tn tc))) g A n c ws k b gr r T tn tc := by
  have hl := h.lt
  exact ⟨⟨Blk.row_other h.z _ (by omega), ⟨Blk.row_other h.rd.blk _ (by omega), h.rd.str.keep (below_row (Below.refl g wr) (by omega) _) (Nat.le_refl _), h.rd.len, h.rd.top, h.rd.low⟩, below_row h.low (by omega) _, hl⟩, Blk.row hx _, by rw [setRow_size]; exact ht, hg⟩
/-- The result is written. -/
theorem QaSt.out (h : QaSt w wr g A n c ws k b gr r T tn tc) (r' : Rul) (v : Value) : RulB (wr.setRow w.heap.size (rulC r' v)) w.heap.size r' v ∧ Below w.heap.size w (wr.setRow w.heap.size (rulC r' v)) :=
  ⟨Blk.row h.p.z _, below_row h.p.low (Nat.le_refl _) _⟩
end
end Go.Proofs.YtbbihfafkpniiaaGreatDoor

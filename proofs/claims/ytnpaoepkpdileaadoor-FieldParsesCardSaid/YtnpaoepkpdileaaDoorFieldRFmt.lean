/- Format of the reference. -/
import Derived.Test.YtnpaoepkpdileaaDoorFieldFmt
import Derived.Deep.RegionLaw
namespace Go.Proofs.YtnpaoepkpdileaaDoor
open Go.RowKit
theorem nameF_nat {k : Nat} (h : 1 ≤ k) (h2 : k ≤ 22) : nameF k = fieldN k := by
  unfold nameF; rw [if_neg (by omega)]; simp
theorem test_drew {w : World} {g : Nat} {cs : Array Value} (h : Blk w g 23 cs) : Blk w.drew g 23 cs := h
attribute [local irreducible] checkF fieldN opN quoteS numS cellsN cellsO anyE nameF
set_option maxRecDepth 100000 in
set_option maxHeartbeats 8000000 in
theorem rformatF (fd op nu : Int) (tx : ByteArray) (ot : Int) (hi : I64 nu) (hx : tx.size ≤ maxLen) (w : World) : Calls Tryd.prog 30 #[testV fd op nu tx ot] w fun e w' => e = .returned (.tuple #[.string (testS fd op nu tx ot), .int .i64 (anyE fd op nu tx ot)]) ∧ Below w.heap.size w w' := by
  obtain ⟨hT, hB⟩ := boxT w fd op nu tx ot
  have HK := Lib.hid (fun l W => rcheckF fd op nu tx ot l hx W)
  go_enter Tryd.func30, Tryd.ntmps30
  go_wp2_with fail
  refine (HK.out _ _).mono ?_
  rintro e w1 ⟨rfl, hb⟩
  have hT1 := hT.below hb
  obtain ⟨q0, q1, q2, q3, q4⟩ := test_cells hT1
  have HB1 := Lib.hid (hB.trans (hb.mono hB.size))
  clear hT hB hb
  by_cases h3 : checkF fd op nu tx ot 3 = 0
  · have HE := Lib.hid (show anyE fd op nu tx ot = 0 by unfold anyE; rw [if_neg (by simp [h3]), h3])
    rw [h3]
    clear h3
    obtain ⟨l, hl⟩ := anyE_zero HE.out
    obtain ⟨c1, c2, c3', c4, c5, c6, c7⟩ := checkF_zero hl
    have r1 := allow_range c1
    obtain ⟨kf, rfl⟩ := Int.eq_ofNat_of_zero_le (show 0 ≤ fd by omega)
    obtain ⟨ko, rfl⟩ := Int.eq_ofNat_of_zero_le (show 0 ≤ op by omega)
    have HS := Lib.hid (testS_nat HE.out)
    have NF := Lib.hid (fun W => rnameF kf W)
    rw [nameF_nat (by omega) (by omega)] at NF
    have z1 := field_len kf
    have z2 := op_len ko
    have HOC := Lib.hid (cellsO_at (k := ko) (by omega))
    have lo : (ko : Int) < 9 := by omega
    have hcat : ¬ 9223372036854775807 < (fieldN kf).size + (opN ko).size := by omega
    have HC2 := Lib.hid c2
    have HC6 := Lib.hid c6
    clear hl c1 c2 c3' c4 c5 c6 c7 r1
    go_wp2_with fail
    go_region_law (first
      | (go_simp; go_at_call 22; refine (NF.out _).mono ?_; rintro e w5 ⟨rfl, hb5⟩; have hT5 := Blk.below (by first | exact hT5 | exact test_drew hT1) hb5; have HB5 := Lib.hid (below_then (by first | exact HB5.out | exact HB1.out.drew) hb5); obtain ⟨q0, q1, q2, q3, q4⟩ := test_cells hT5; (try (have hgo := Glob.below hgo hb5 (Nat.le_refl _); have hco := (hgo.cell ko).trans HOC.out)); go_simp)
      | (go_simp; go_at_call 45; refine (rops _).mono ?_; rintro e w5 ⟨rfl, hgo, hb5⟩; have hT5 := Blk.below (by first | exact hT5 | exact test_drew hT1) hb5; have HB5 := Lib.hid (below_then (by first | exact HB5.out | exact HB1.out.drew) hb5); obtain ⟨q0, q1, q2, q3, q4⟩ := test_cells hT5; have hco := (hgo.cell ko).trans HOC.out; go_simp))
    all_goals
      clear hco hgo
      by_cases hot : ot = 0
      · subst hot
        cases htx : textB (kf : Int)
        · have HV := Lib.hid (show valS kf nu tx 0 = numS nu by unfold valS; rw [if_neg (by simp), if_neg (by rw [htx]; decide)])
          have CT := Lib.hid (fun W => rtextF kf W)
          rw [htx] at CT
          have HI := Lib.hid (fun W => rnumber nu hi.1 hi.2 W)
          have z3 := numS_lenF nu hi.1 hi.2
          clear htx
          go_wp2_with fail
          refine (CT.out _).mono ?_
          rintro e w7 ⟨rfl, rfl⟩
          go_wp2_with fail
          refine (HI.out _).mono ?_
          rintro e w8 ⟨rfl, rfl⟩
          have z4 : (fieldN kf ++ opN ko).size ≤ 10 := by rw [ByteArray.size_append]; omega
          go_wp2_with fail
          go_ret2
          exact ⟨tup (by rw [HS.out, HV.out]) HE.out.symm, HB5.out⟩
        · have HV := Lib.hid (show valS kf nu tx 0 = quoteS tx by unfold valS; rw [if_neg (by simp), if_pos htx])
          have CT := Lib.hid (fun W => rtextF kf W)
          rw [htx] at CT
          have HQ := Lib.hid (fun W => rquote tx W hx)
          have hs6 : tx.size ≤ 640 := by rcases HC6.out with h | h; rw [htx] at h; cases h; exact h.2.2
          have z3 := quoteS_leF tx hs6
          clear htx
          go_wp2_with fail
          refine (CT.out _).mono ?_
          rintro e w7 ⟨rfl, rfl⟩
          go_wp2_with fail
          refine (HQ.out _).mono ?_
          rintro e w8 ⟨rfl, hb8⟩
          have HB8 := Lib.hid (below_then HB5.out hb8)
          have z4 : (fieldN kf ++ opN ko).size ≤ 10 := by rw [ByteArray.size_append]; omega
          go_wp2_with fail
          go_ret2
          exact ⟨tup (by rw [HS.out, HV.out]) HE.out.symm, HB8.out⟩
      · have r2 := allow_range (HC2.out.resolve_left hot).1
        have HV := Lib.hid (show valS kf nu tx ot = nameF ot by unfold valS; rw [if_pos hot]; unfold nameF; rw [if_neg (by omega)])
        have NO := Lib.hid (fun W => rnameF ot W)
        have z3 : (nameF ot).size ≤ 8 := by unfold nameF; rw [if_neg (by omega)]; exact field_len _
        have b0 : (ot != 0) = true := by simpa using hot
        clear hot
        go_wp2_with fail
        refine (NO.out _).mono ?_
        rintro e w8 ⟨rfl, hb8⟩
        have HB8 := Lib.hid (below_then HB5.out hb8)
        have z4 : (fieldN kf ++ opN ko).size ≤ 10 := by rw [ByteArray.size_append]; omega
        go_wp2_with fail
        go_ret2
        exact ⟨tup (by rw [HS.out, HV.out]) HE.out.symm, HB8.out⟩
  · have b3 : (checkF fd op nu tx ot 3 != 0) = true := by simpa using h3
    have H3 := Lib.hid h3
    have HT1 := Lib.hid hT1
    clear h3 hT1
    go_wp2_with fail
    refine (HK.out _ _).mono ?_
    rintro e w2 ⟨rfl, hb⟩
    have HB2 := Lib.hid (below_then HB1.out hb)
    by_cases h5 : checkF fd op nu tx ot 5 = 0
    · have HE := Lib.hid (show anyE fd op nu tx ot = 0 by unfold anyE; rw [if_pos ⟨H3.out, h5⟩])
      have hT1 := HT1.out.below hb
      clear q0 q1 q2 q3 q4
      obtain ⟨q0, q1, q2, q3, q4⟩ := test_cells hT1
      rw [h5]
      clear h5 hb HB1
      have HB1 := HB2
      clear HB2 H3 HT1
      obtain ⟨l, hl⟩ := anyE_zero HE.out
      obtain ⟨c1, c2, c3', c4, c5, c6, c7⟩ := checkF_zero hl
      have r1 := allow_range c1
      obtain ⟨kf, rfl⟩ := Int.eq_ofNat_of_zero_le (show 0 ≤ fd by omega)
      obtain ⟨ko, rfl⟩ := Int.eq_ofNat_of_zero_le (show 0 ≤ op by omega)
      have HS := Lib.hid (testS_nat HE.out)
      have NF := Lib.hid (fun W => rnameF kf W)
      rw [nameF_nat (by omega) (by omega)] at NF
      have z1 := field_len kf
      have z2 := op_len ko
      have HOC := Lib.hid (cellsO_at (k := ko) (by omega))
      have lo : (ko : Int) < 9 := by omega
      have hcat : ¬ 9223372036854775807 < (fieldN kf).size + (opN ko).size := by omega
      have HC2 := Lib.hid c2
      have HC6 := Lib.hid c6
      clear hl c1 c2 c3' c4 c5 c6 c7 r1
      go_wp2_with fail
      go_region_law (first
        | (go_simp; go_at_call 22; refine (NF.out _).mono ?_; rintro e w5 ⟨rfl, hb5⟩; have hT5 := Blk.below (by first | exact hT5 | exact test_drew hT1) hb5; have HB5 := Lib.hid (below_then (by first | exact HB5.out | exact HB1.out.drew) hb5); obtain ⟨q0, q1, q2, q3, q4⟩ := test_cells hT5; (try (have hgo := Glob.below hgo hb5 (Nat.le_refl _); have hco := (hgo.cell ko).trans HOC.out)); go_simp)
        | (go_simp; go_at_call 45; refine (rops _).mono ?_; rintro e w5 ⟨rfl, hgo, hb5⟩; have hT5 := Blk.below (by first | exact hT5 | exact test_drew hT1) hb5; have HB5 := Lib.hid (below_then (by first | exact HB5.out | exact HB1.out.drew) hb5); obtain ⟨q0, q1, q2, q3, q4⟩ := test_cells hT5; have hco := (hgo.cell ko).trans HOC.out; go_simp))
      all_goals
        clear hco hgo
        by_cases hot : ot = 0
        · subst hot
          cases htx : textB (kf : Int)
          · have HV := Lib.hid (show valS kf nu tx 0 = numS nu by unfold valS; rw [if_neg (by simp), if_neg (by rw [htx]; decide)])
            have CT := Lib.hid (fun W => rtextF kf W)
            rw [htx] at CT
            have HI := Lib.hid (fun W => rnumber nu hi.1 hi.2 W)
            have z3 := numS_lenF nu hi.1 hi.2
            clear htx
            go_wp2_with fail
            refine (CT.out _).mono ?_
            rintro e w7 ⟨rfl, rfl⟩
            go_wp2_with fail
            refine (HI.out _).mono ?_
            rintro e w8 ⟨rfl, rfl⟩
            have z4 : (fieldN kf ++ opN ko).size ≤ 10 := by rw [ByteArray.size_append]; omega
            go_wp2_with fail
            go_ret2
            exact ⟨tup (by rw [HS.out, HV.out]) HE.out.symm, HB5.out⟩
          · have HV := Lib.hid (show valS kf nu tx 0 = quoteS tx by unfold valS; rw [if_neg (by simp), if_pos htx])
            have CT := Lib.hid (fun W => rtextF kf W)
            rw [htx] at CT
            have HQ := Lib.hid (fun W => rquote tx W hx)
            have hs6 : tx.size ≤ 640 := by rcases HC6.out with h | h; rw [htx] at h; cases h; exact h.2.2
            have z3 := quoteS_leF tx hs6
            clear htx
            go_wp2_with fail
            refine (CT.out _).mono ?_
            rintro e w7 ⟨rfl, rfl⟩
            go_wp2_with fail
            refine (HQ.out _).mono ?_
            rintro e w8 ⟨rfl, hb8⟩
            have HB8 := Lib.hid (below_then HB5.out hb8)
            have z4 : (fieldN kf ++ opN ko).size ≤ 10 := by rw [ByteArray.size_append]; omega
            go_wp2_with fail
            go_ret2
            exact ⟨tup (by rw [HS.out, HV.out]) HE.out.symm, HB8.out⟩
        · have r2 := allow_range (HC2.out.resolve_left hot).1
          have HV := Lib.hid (show valS kf nu tx ot = nameF ot by unfold valS; rw [if_pos hot]; unfold nameF; rw [if_neg (by omega)])
          have NO := Lib.hid (fun W => rnameF ot W)
          have z3 : (nameF ot).size ≤ 8 := by unfold nameF; rw [if_neg (by omega)]; exact field_len _
          have b0 : (ot != 0) = true := by simpa using hot
          clear hot
          go_wp2_with fail
          refine (NO.out _).mono ?_
          rintro e w8 ⟨rfl, hb8⟩
          have HB8 := Lib.hid (below_then HB5.out hb8)
          have z4 : (fieldN kf ++ opN ko).size ≤ 10 := by rw [ByteArray.size_append]; omega
          go_wp2_with fail
          go_ret2
          exact ⟨tup (by rw [HS.out, HV.out]) HE.out.symm, HB8.out⟩
    · have HE := Lib.hid (show anyE fd op nu tx ot = checkF fd op nu tx ot 3 by unfold anyE; rw [if_neg (fun h => h5 h.2)])
      have HE2 := Lib.hid (show testS fd op nu tx ot = ⟨#[]⟩ by unfold testS; rw [HE.out, if_neg H3.out])
      have b5 : (checkF fd op nu tx ot 5 != 0) = true := by simpa using h5
      clear h5
      go_wp2_with fail
      go_ret2
      exact ⟨tup HE2.out.symm HE.out.symm, HB2.out⟩
end Go.Proofs.YtnpaoepkpdileaaDoor

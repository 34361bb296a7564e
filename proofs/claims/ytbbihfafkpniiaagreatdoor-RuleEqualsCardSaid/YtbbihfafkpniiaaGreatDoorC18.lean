/- Texts of one proof, laid together. -/
import Derived.Test.YtbbihfafkpniiaaGreatDoorC17
import Derived.StillTailTactics
import Derived.Test.YtbbihfafkpniiaaGreatDoorC10
import Derived.Deep.RegionLaw
import Derived.Test.YtbbihfafkpniiaaGreatDoorC06
import Derived.Lib.TrailingZeros
/- Check of the reference's rules returns checkR. -/
namespace Go.Proofs.YtbbihfafkpniiaaGreatDoor
open Go.RowKit
theorem callsB_bits (li : Int) : callsB li = ((li == 2) || (li == 3)) := by
  unfold callsB
  by_cases h2 : li = 2
  · simp [h2]
  · by_cases h3 : li = 3
    · simp [h3]
    · simp [h2, h3]
/-- What the walk of the watch wants. -/
structure WatF (wa pe li : Int) (pa : ByteArray) (b : Bool) : Prop where
  eq : watchB wa pe li pa = b
attribute [local irreducible] checkF watchB callsB firstE tailR checkR cleanB callsOk
set_option maxRecDepth 100000 in
set_option maxHeartbeats 16000000 in
theorem rcheckR (r : Rul) (A : Option Addr) (c n : Nat) (hn : n = r.ts.length) (hz : SizR r) (w : World) (hT : TestsAt w w.heap.size A r.ts) :
    Calls Tryz.prog 30 #[rulV r (.slice A n c)] w fun e w' => e = .returned (.int .i64 (checkR r)) ∧ Below w.heap.size w w' := by
  obtain ⟨HG0, HB0⟩ := rul_box w r (.slice A n c)
  have HT := Lib.hid (hT.keep HB0 (Nat.le_refl _))
  have HB := Lib.hid HB0
  have HG := Lib.hid HG0
  clear HG0 HB0
  by_cases hl1 : r.li < 1
  · rw [checkR_list (.inl hl1)]
    have d1 : decide (r.li < 1) = true := decide_eq_true hl1
    clear hT hz hn
    go_enter Tryz.func30, Tryz.ntmps30
    go_wp2_with fail
    go_ret
    exact ⟨rfl, HB.out⟩
  by_cases hl5 : 5 < r.li
  · rw [checkR_list (.inr hl5)]
    have d1 : decide (r.li < 1) = false := decide_eq_false hl1
    have d2 : decide (5 < r.li) = true := decide_eq_true hl5
    clear hT hz hn
    go_enter Tryz.func30, Tryz.ntmps30
    go_wp2_with fail
    go_ret
    exact ⟨rfl, HB.out⟩
  have d1 : decide (r.li < 1) = false := decide_eq_false hl1
  have d2 : decide (5 < r.li) = false := decide_eq_false hl5
  by_cases hac : r.ac = 1 ∨ r.ac = 2
  case neg =>
    rw [checkR_act ⟨by omega, by omega⟩ ⟨fun h => hac (.inl h), fun h => hac (.inr h)⟩]
    have b1 : (r.ac == 1) = false := by simp; omega
    have b2 : (r.ac == 2) = false := by simp; omega
    have b3 : (r.ac != 1) = true := by simp; omega
    have b4 : (r.ac != 2) = true := by simp; omega
    clear hT hz hn hac
    go_enter Tryz.func30, Tryz.ntmps30
    go_wp2_with fail
    go_ret
    exact ⟨rfl, HB.out⟩
  case pos =>
  have HCA := Lib.hid (fun (h : callsOk r = false) => checkR_calls ⟨by omega, by omega⟩ hac h)
  have HTA := Lib.hid (fun (h : callsOk r = true) => checkR_tail ⟨by omega, by omega⟩ hac h)
  have hca := hz.ca
  have hke := hz.ke
  have hpa := hz.pa
  have HTX := Lib.hid hz.tx
  have HN := Lib.hid hn
  have hln : n ≤ 1000000 := by rw [hn]; exact hz.ln
  have HV := Lib.hid (fun W => rvalid r.ca W)
  have H5 := Lib.hid (show callsB r.li = false → callsOk r = decide (r.ca = 0) from fun h => callsOk_no h)
  have H6 := Lib.hid (show callsB r.li = true → callsOk r = decide (r.ca ≠ 0 ∧ r.ca < 4294967296) from fun h => callsOk_yes h)
  have HLONG := Lib.hid (fun (h : 8 < r.ts.length) => tail_long h)
  have HTST := Lib.hid (fun (h0 : ¬ 8 < r.ts.length) (k : Nat) (hk : k < r.ts.length) (h1 : firstE (r.ts.take k) r.li = 0) (h : (r.ts[k]'hk).chk r.li ≠ 0) => tail_test h0 hk h1 h)
  have HWAT := Lib.hid (fun (h0 : ¬ 8 < r.ts.length) (h1 : firstE r.ts r.li = 0) (h : watchB r.wa r.pe r.li r.pa = false) => tail_watch h0 h1 h)
  have HKEY := Lib.hid (fun (h0 : ¬ 8 < r.ts.length) (h1 : firstE r.ts r.li = 0) (h2 : watchB r.wa r.pe r.li r.pa = true) (h : 31 < r.ke.size) => tail_key h0 h1 h2 h)
  have HOK := Lib.hid (fun (h0 : ¬ 8 < r.ts.length) (h1 : firstE r.ts r.li = 0) (h2 : watchB r.wa r.pe r.li r.pa = true) (h : ¬ 31 < r.ke.size) => tail_ok h0 h1 h2 h)
  have HPC := Lib.hid (fun W => rpclean r.pa W hpa)
  generalize tailR r = res at *
  generalize checkR r = cres at *
  generalize callsOk r = cok at *
  clear hz hT hn hl1 hl5
  obtain ⟨li, ac, ca, ts, wa, pa, pe, ke⟩ := r
  simp only at *
  have HCBB := Lib.hid (callsB_bits li)
  go_enter Tryz.func30, Tryz.ntmps30
  go_upto_region 3 with (fail)
  go_cut [21] (fun v wx => v = .bool false ∧ wx = (w.alloc (.cells (rulC ⟨li, ac, ca, ts, wa, pa, pe, ke⟩ (.slice A n c)) 26)))
  case first =>
    rcases hac with rfl | rfl
    all_goals
      go_wp2_with fail
      go_meet
      exact ⟨rfl, rfl⟩
  case rest =>
    obtain ⟨rfl, rfl⟩ := hcut
    clear hac
    go_upto_region 5 with (fail)
    go_cut [3] (fun v wx => v = .bool (callsB li) ∧ wx = (w.alloc (.cells (rulC ⟨li, ac, ca, ts, wa, pa, pe, ke⟩ (.slice A n c)) 26)))
    case first =>
      by_cases h2 : li = 2
      · have b2 : (li == 2) = true := by simpa using h2
        have HX := Lib.hid (show callsB li = true by rw [HCBB.out, b2]; rfl)
        clear h2
        go_wp2_with fail
        go_meet
        exact ⟨by rw [HX.out], rfl⟩
      · have b2 : (li == 2) = false := by simpa using h2
        cases b3 : (li == 3)
        · have HX := Lib.hid (show callsB li = false by rw [HCBB.out, b2, b3]; rfl)
          clear h2
          go_wp2_with fail
          go_meet
          exact ⟨by rw [HX.out], rfl⟩
        · have HX := Lib.hid (show callsB li = true by rw [HCBB.out, b2, b3]; rfl)
          clear h2
          go_wp2_with fail
          go_meet
          exact ⟨by rw [HX.out], rfl⟩
    case rest =>
      obtain ⟨rfl, rfl⟩ := hcut
      clear HCBB
      generalize callsB li = cb at *
      go_upto_region 6 with (fail)
      go_cut [50] (fun v wx => v = .bool (!cok) ∧ wx = (w.alloc (.cells (rulC ⟨li, ac, ca, ts, wa, pa, pe, ke⟩ (.slice A n c)) 26)))
      case first =>
        cases cb
        · have h5 := H5.out rfl
          by_cases hz : ca = 0
          · have b5 : ((ca : Int) != 0) = false := by simp [hz]
            have HX := Lib.hid (show cok = true by rw [h5]; simp [hz])
            clear h5 hz H5 H6
            go_wp2_with fail
            go_meet
            exact ⟨by rw [HX.out]; rfl, rfl⟩
          · have b5 : ((ca : Int) != 0) = true := by simp [hz]
            have HX := Lib.hid (show cok = false by rw [h5]; simp [hz])
            clear h5 hz H5 H6
            go_wp2_with fail
            go_meet
            exact ⟨by rw [HX.out]; rfl, rfl⟩
        · have h6 := H6.out rfl
          by_cases hz : ca = 0
          · have b5 : ((ca : Int) == 0) = true := by simp [hz]
            have HX := Lib.hid (show cok = false by rw [h6]; simp [hz])
            clear h6 hz H5 H6
            go_wp2_with fail
            go_meet
            exact ⟨by rw [HX.out]; rfl, rfl⟩
          · have b5 : ((ca : Int) == 0) = false := by simp [hz]
            by_cases hlt : ca < 4294967296
            · have HX := Lib.hid (show cok = true by rw [h6]; simp [hz, hlt])
              rw [validB_lt hlt] at HV
              clear h6 hz H5 H6 hlt
              go_wp2_with fail
              refine (HV.out _).mono ?_
              rintro e w1 ⟨rfl, rfl⟩
              go_wp2_with fail
              go_meet
              exact ⟨by rw [HX.out]; rfl, rfl⟩
            · have HX := Lib.hid (show cok = false by rw [h6]; simp [hz, hlt])
              rw [validB_ge hlt] at HV
              clear h6 hz H5 H6 hlt
              go_wp2_with fail
              refine (HV.out _).mono ?_
              rintro e w1 ⟨rfl, rfl⟩
              go_wp2_with fail
              go_meet
              exact ⟨by rw [HX.out]; rfl, rfl⟩
      case rest =>
        obtain ⟨rfl, rfl⟩ := hcut
        clear H5 H6 HV hca
        cases cok
        · have HR := Lib.hid (HCA.out rfl)
          go_wp2_with fail
          go_ret
          exact ⟨by rw [HR.out]; rfl, HB.out⟩
        have HCR := Lib.hid (HTA.out rfl)
        clear HCA HTA
        by_cases hl : 8 < n
        · have d8 : decide ((8 : Int) < (n : Int)) = true := decide_eq_true (by omega)
          have HR := Lib.hid (HCR.out.trans (HLONG.out (by rw [← HN.out]; exact hl)))
          go_wp2_with fail
          go_ret
          exact ⟨by rw [HR.out]; rfl, HB.out⟩
        · have d8 : decide ((8 : Int) < (n : Int)) = false := decide_eq_false (by omega)
          have HL := Lib.hid (show ¬ 8 < ts.length by rw [← HN.out]; exact hl)
          clear HLONG
          go_wp2_with fail
          go_loopw [4] (fun i wr => ∃ k : Nat, k ≤ n ∧ i = .int .i64 (k : Int) ∧ Hid (firstE (ts.take k) li = 0) ∧ RulB wr w.heap.size ⟨li, ac, ca, ts, wa, pa, pe, ke⟩ (.slice A n c) ∧ Below w.heap.size w wr ∧ TestsAt wr w.heap.size A ts) (fun i _ => n - (intOf i).toNat)
          case atStart => exact ⟨0, Nat.zero_le _, rfl, Lib.hid (firstE_nil ts li), HG.out, HB.out, HT.out⟩
          case round =>
            obtain ⟨k, hk, rfl, hfe, hg, hb, ht⟩ := hrel
            clear HG HB HT
            have HG := Lib.hid hg
            have HB := Lib.hid hb
            have HT := Lib.hid ht
            have q3 := hg.c3
            by_cases hlt : k < n
            · have hkl : k < ts.length := by rw [← HN.out]; exact hlt
              obtain ⟨ad, rfl, hadb, t0, t1, t2, t3, t4⟩ := ht.cells hkl
              have q0 := hg.c0
              have HTS := Lib.hid (HTST.out HL.out k hkl hfe.out)
              have HFN := Lib.hid (fun h => firstE_next (l := li) hkl hfe.out h)
              have HCK := Lib.hid (rcheckF (ts[k]'hkl).fd (ts[k]'hkl).op (ts[k]'hkl).nu (ts[k]'hkl).tx (ts[k]'hkl).ot li (HTX.out _ (List.getElem_mem hkl)))
              have k0 : (0 : Int) ≤ (k : Int) := by omega
              have kn : (k : Int) < (n : Int) := by omega
              clear hg hb ht
              unfold Tst.chk at HTS HFN
              generalize ts[k] = t at *
              obtain ⟨fd, op, nu, tx, ot⟩ := t
              simp only at t0 t1 t2 t3 t4 HTS HFN HCK
              go_wp2_with fail
              go_still_tail 7, (by kernel_rfl)
              go_wp2_with fail
              refine (HCK.out _).mono ?_
              rintro e w2 ⟨rfl, hb2⟩
              have HB2 := Lib.hid (HB.out.trans (((below_drewN (Below.refl wr.heap.size wr) _).trans hb2).mono HB.out.size))
              have HG2 := Lib.hid (Blk.below (HG.out.drewN _) hb2)
              have HT2 := Lib.hid (((HT.out.keep (below_drewN (Below.refl wr.heap.size wr) _) (Nat.le_of_lt HG.out.lt)).keep hb2 (Nat.le_of_lt HG.out.lt)))
              clear hb2 q0 q3 t0 t1 t2 t3 t4
              by_cases hne : checkF fd op nu tx ot li = 0
              · have HF := Lib.hid (HFN.out hne)
                rw [hne]
                clear hne
                go_wp2_with fail
                go_roundw
                case rel =>
                  (repeat apply Exists.intro)
                  refine ⟨?_, rfl⟩
                  exact ⟨k + 1, by omega, by go_num, HF, HG2.out, HB2.out, HT2.out⟩
                case measure => simp [intOf]; omega
              · have HR := Lib.hid (HCR.out.trans (HTS.out hne))
                have bn := ret_ne hne
                clear hne
                go_wp2_with fail
                go_ret
                exact ⟨by rw [HR.out]; rfl, HB2.out⟩
            · have hkn : k = n := by omega
              subst hkn
              have HF := Lib.hid (show firstE ts li = 0 by have := hfe.out; rw [HN.out, List.take_length] at this; exact this)
              obtain ⟨q0, q1, q2, q3', q4, q5, q6, q7⟩ := rul_cells hg
              have HBAD := Lib.hid (fun h => HCR.out.trans (HWAT.out HL.out HF.out h))
              have HK1 := Lib.hid (fun h k => HCR.out.trans (HKEY.out HL.out HF.out h k))
              have HK2 := Lib.hid (fun h k => HCR.out.trans (HOK.out HL.out HF.out h k))
              clear hfe hg hb ht hlt HTST HWAT HKEY HOK HCR HL HF HT HTX HN
              obtain ⟨kb, hkb, hres⟩ : ∃ kb : Bool, decide ((31 : Int) < (ke.size : Int)) = kb ∧ Hid (watchB wa pe li pa = true → cres = if kb then 135 else 0) := by
                by_cases hk3 : 31 < ke.size
                · exact ⟨true, decide_eq_true (by omega), Lib.hid (fun h => HK1.out h hk3)⟩
                · exact ⟨false, decide_eq_false (by omega), Lib.hid (fun h => HK2.out h hk3)⟩
              clear HK1 HK2 hke
              by_cases h0 : wa = 0
              · subst h0
                by_cases hz : pa.size = 0
                · have e1 := emptyF hz
                  by_cases hq : pe = 0
                  · have HR := Lib.hid (hres.out ((watchB_zero rfl).trans (decide_eq_true ⟨hz, hq⟩)))
                    have b1 : (pe != 0) = false := by simpa using hq
                    clear hz hq hres HBAD
                    cases kb
                    all_goals
                      go_wp2_with fail
                      go_ret
                      exact ⟨by rw [HR.out]; rfl, HB.out⟩
                  · have HR := Lib.hid (HBAD.out ((watchB_zero rfl).trans (decide_eq_false (fun h => hq h.2))))
                    have b1 : (pe != 0) = true := by simpa using hq
                    clear hz hq hres HBAD
                    go_wp2_with fail
                    go_ret
                    exact ⟨by rw [HR.out]; rfl, HB.out⟩
                · have e1 := nonemptyF hz
                  have e2 : pa.toList.isEmpty = false := by simpa using e1
                  have HR := Lib.hid (HBAD.out ((watchB_zero rfl).trans (decide_eq_false (fun h => hz h.1))))
                  clear hz hres HBAD
                  go_wp2_with fail
                  go_ret
                  exact ⟨by rw [HR.out]; rfl, HB.out⟩
              · have b0 : (wa == 0) = false := by simpa using h0
                by_cases h12 : wa = 1 ∨ wa = 2
                · have HW := Lib.hid (watchB_some (pe := pe) (li := li) (pa := pa) h12)
                  by_cases h3 : li = 3
                  · have b3 : (li != 3) = false := by simpa using h3
                    by_cases hs : pa.size ≤ 128
                    · have ds : decide ((128 : Int) < (pa.size : Int)) = false := decide_eq_false (by omega)
                      by_cases hp1 : 1 ≤ pe
                      · have dp1 : decide (pe < 1) = false := decide_eq_false (by omega)
                        by_cases hp2 : pe ≤ 15
                        · have dp2 : decide (15 < pe) = false := decide_eq_false (by omega)
                          have HW2 := Lib.hid (show watchB wa pe li pa = cleanB pa by rw [HW.out, decide_eq_true h3, decide_eq_true (show pa.size ≤ 128 ∧ 1 ≤ pe ∧ pe ≤ 15 from ⟨hs, hp1, hp2⟩)]; simp)
                          clear HW h0 h3 hs hp1 hp2
                          cases hcb : cleanB pa
                          · have HR := Lib.hid (HBAD.out (HW2.out.trans hcb))
                            rw [hcb] at HPC
                            clear hcb hres HBAD HW2
                            rcases h12 with rfl | rfl
                            all_goals
                              go_wp2_with fail
                              refine (HPC.out _).mono ?_
                              rintro e w2 ⟨rfl, hb2⟩
                              have HB2 := Lib.hid (below_then HB.out hb2)
                              obtain ⟨p0, p1, p2, p3, p4, p5, p6, p7⟩ := rul_cells (Blk.below HG.out hb2)
                              clear hb2 q0 q1 q2 q3 q3' q4 q5 q6 q7
                              go_wp2_with fail
                              go_ret
                              exact ⟨by rw [HR.out]; rfl, HB2.out⟩
                          · have HR := Lib.hid (hres.out (HW2.out.trans hcb))
                            rw [hcb] at HPC
                            clear hcb hres HBAD HW2
                            rcases h12 with rfl | rfl <;> cases kb
                            all_goals
                              go_wp2_with fail
                              refine (HPC.out _).mono ?_
                              rintro e w2 ⟨rfl, hb2⟩
                              have HB2 := Lib.hid (below_then HB.out hb2)
                              obtain ⟨p0, p1, p2, p3, p4, p5, p6, p7⟩ := rul_cells (Blk.below HG.out hb2)
                              clear hb2 q0 q1 q2 q3 q3' q4 q5 q6 q7
                              go_wp2_with fail
                              go_ret
                              exact ⟨by rw [HR.out]; rfl, HB2.out⟩
                        · have dp2 : decide (15 < pe) = true := decide_eq_true (by omega)
                          have HR := Lib.hid (HBAD.out (by rw [HW.out, decide_eq_false (show ¬ (pa.size ≤ 128 ∧ 1 ≤ pe ∧ pe ≤ 15) from fun h => hp2 h.2.2)]; simp))
                          clear HW h0 h3 hs hp1 hp2 hres HBAD
                          generalize cleanB pa = cb at *
                          rcases h12 with rfl | rfl <;> cases cb
                          all_goals
                            go_wp2_with fail
                            refine (HPC.out _).mono ?_
                            rintro e w2 ⟨rfl, hb2⟩
                            have HB2 := Lib.hid (below_then HB.out hb2)
                            obtain ⟨p0, p1, p2, p3, p4, p5, p6, p7⟩ := rul_cells (Blk.below HG.out hb2)
                            clear hb2 q0 q1 q2 q3 q3' q4 q5 q6 q7
                            go_wp2_with fail
                            go_ret
                            exact ⟨by rw [HR.out]; rfl, HB2.out⟩
                      · have dp1 : decide (pe < 1) = true := decide_eq_true (by omega)
                        have HR := Lib.hid (HBAD.out (by rw [HW.out, decide_eq_false (show ¬ (pa.size ≤ 128 ∧ 1 ≤ pe ∧ pe ≤ 15) from fun h => hp1 h.2.1)]; simp))
                        clear HW h0 h3 hs hp1 hres HBAD
                        generalize cleanB pa = cb at *
                        rcases h12 with rfl | rfl <;> cases cb
                        all_goals
                          go_wp2_with fail
                          refine (HPC.out _).mono ?_
                          rintro e w2 ⟨rfl, hb2⟩
                          have HB2 := Lib.hid (below_then HB.out hb2)
                          obtain ⟨p0, p1, p2, p3, p4, p5, p6, p7⟩ := rul_cells (Blk.below HG.out hb2)
                          clear hb2 q0 q1 q2 q3 q3' q4 q5 q6 q7
                          go_wp2_with fail
                          go_ret
                          exact ⟨by rw [HR.out]; rfl, HB2.out⟩
                    · have ds : decide ((128 : Int) < (pa.size : Int)) = true := decide_eq_true (by omega)
                      have HR := Lib.hid (HBAD.out (by rw [HW.out, decide_eq_false (show ¬ (pa.size ≤ 128 ∧ 1 ≤ pe ∧ pe ≤ 15) from fun h => hs h.1)]; simp))
                      clear HW h0 h3 hs hres HBAD
                      generalize cleanB pa = cb at *
                      rcases h12 with rfl | rfl <;> cases cb
                      all_goals
                        go_wp2_with fail
                        refine (HPC.out _).mono ?_
                        rintro e w2 ⟨rfl, hb2⟩
                        have HB2 := Lib.hid (below_then HB.out hb2)
                        obtain ⟨p0, p1, p2, p3, p4, p5, p6, p7⟩ := rul_cells (Blk.below HG.out hb2)
                        clear hb2 q0 q1 q2 q3 q3' q4 q5 q6 q7
                        go_wp2_with fail
                        go_ret
                        exact ⟨by rw [HR.out]; rfl, HB2.out⟩
                  · have b3 : (li != 3) = true := by simpa using h3
                    have HR := Lib.hid (HBAD.out (by rw [HW.out, decide_eq_false h3]; simp))
                    clear HW h0 h3 hres HBAD
                    rcases h12 with rfl | rfl
                    all_goals
                      go_wp2_with fail
                      go_ret
                      exact ⟨by rw [HR.out]; rfl, HB.out⟩
                · have h1 : wa ≠ 1 := fun h => h12 (.inl h)
                  have h2 : wa ≠ 2 := fun h => h12 (.inr h)
                  have HR := Lib.hid (HBAD.out (watchB_none h0 h1 h2))
                  have b1 : (wa == 1) = false := by simpa using h1
                  have b2 : (wa == 2) = false := by simpa using h2
                  clear h0 h1 h2 h12 hres HBAD
                  go_wp2_with fail
                  go_ret
                  exact ⟨by rw [HR.out]; rfl, HB.out⟩
end Go.Proofs.YtbbihfafkpniiaaGreatDoor
/- Format of the reference. -/
namespace Go.Proofs.YtbbihfafkpniiaaGreatDoor
open Go.RowKit
theorem nameF_nat {k : Nat} (h : 1 ≤ k) (h2 : k ≤ 22) : nameF k = fieldN k := by
  unfold nameF; rw [if_neg (by omega)]; simp
theorem test_drew {w : World} {g : Nat} {cs : Array Value} (h : Blk w g 40 cs) : Blk w.drew g 40 cs := h
attribute [local irreducible] checkF fieldN opN quoteS numS cellsN cellsO anyE nameF
set_option maxRecDepth 100000 in
set_option maxHeartbeats 8000000 in
theorem rformatF (fd op nu : Int) (tx : ByteArray) (ot : Int) (hi : I64 nu) (hx : tx.size ≤ maxLen) (w : World) : Calls Tryz.prog 37 #[testV fd op nu tx ot] w fun e w' => e = .returned (.tuple #[.string (testS fd op nu tx ot), .int .i64 (anyE fd op nu tx ot)]) ∧ Below w.heap.size w w' := by
  obtain ⟨hT, hB⟩ := boxT w fd op nu tx ot
  have HK := Lib.hid (fun l W => rcheckF fd op nu tx ot l hx W)
  go_enter Tryz.func37, Tryz.ntmps37
  go_wp2_with fail
  refine (HK.out _ _).mono ?_
  rintro e w1 ⟨rfl, hb⟩
  have hT1 := hT.below hb
  obtain ⟨q0, q1, q2, q3, q4⟩ := test_cells hT1
  have HB1 := Lib.hid (hB.trans (hb.mono hB.size))
  clear hT hB hb
  by_cases h3 : checkF fd op nu tx ot 3 = 0
  · have HE := Lib.hid (show anyE fd op nu tx ot = 0 by unfold anyE; rw [if_neg (by simp [h3]), h3])
    rw [h3]
    clear h3
    obtain ⟨l, hl⟩ := anyE_zero HE.out
    obtain ⟨c1, c2, c3', c4, c5, c6, c7⟩ := checkF_zero hl
    have r1 := allow_range c1
    obtain ⟨kf, rfl⟩ := Int.eq_ofNat_of_zero_le (show 0 ≤ fd by omega)
    obtain ⟨ko, rfl⟩ := Int.eq_ofNat_of_zero_le (show 0 ≤ op by omega)
    have HS := Lib.hid (testS_nat HE.out)
    have NF := Lib.hid (fun W => rnameF kf W)
    rw [nameF_nat (by omega) (by omega)] at NF
    have z1 := field_len kf
    have z2 := op_len ko
    have HOC := Lib.hid (cellsO_at (k := ko) (by omega))
    have lo : (ko : Int) < 9 := by omega
    have hcat : ¬ 9223372036854775807 < (fieldN kf).size + (opN ko).size := by omega
    have HC2 := Lib.hid c2
    have HC6 := Lib.hid c6
    clear hl c1 c2 c3' c4 c5 c6 c7 r1
    go_wp2_with fail
    go_region_law (first
      | (go_simp; go_at_call 63; refine (NF.out _).mono ?_; rintro e w5 ⟨rfl, hb5⟩; have hT5 := Blk.below (by first | exact hT5 | exact test_drew hT1) hb5; have HB5 := Lib.hid (below_then (by first | exact HB5.out | exact HB1.out.drew) hb5); obtain ⟨q0, q1, q2, q3, q4⟩ := test_cells hT5; (try (have hgo := Glob.below hgo hb5 (Nat.le_refl _); have hco := (hgo.cell ko).trans HOC.out)); go_simp)
      | (go_simp; go_at_call 64; refine (rops _).mono ?_; rintro e w5 ⟨rfl, hgo, hb5⟩; have hT5 := Blk.below (by first | exact hT5 | exact test_drew hT1) hb5; have HB5 := Lib.hid (below_then (by first | exact HB5.out | exact HB1.out.drew) hb5); obtain ⟨q0, q1, q2, q3, q4⟩ := test_cells hT5; have hco := (hgo.cell ko).trans HOC.out; go_simp))
    all_goals
      clear hco hgo
      by_cases hot : ot = 0
      · subst hot
        cases htx : textB (kf : Int)
        · have HV := Lib.hid (show valS kf nu tx 0 = numS nu by unfold valS; rw [if_neg (by simp), if_neg (by rw [htx]; decide)])
          have CT := Lib.hid (fun W => rtextF kf W)
          rw [htx] at CT
          have HI := Lib.hid (fun W => rnumber nu hi.1 hi.2 W)
          have z3 := numS_lenF nu hi.1 hi.2
          clear htx
          go_wp2_with fail
          refine (CT.out _).mono ?_
          rintro e w7 ⟨rfl, rfl⟩
          go_wp2_with fail
          refine (HI.out _).mono ?_
          rintro e w8 ⟨rfl, rfl⟩
          have z4 : (fieldN kf ++ opN ko).size ≤ 10 := by rw [ByteArray.size_append]; omega
          go_wp2_with fail
          go_ret2
          exact ⟨tup (by rw [HS.out, HV.out]) HE.out.symm, HB5.out⟩
        · have HV := Lib.hid (show valS kf nu tx 0 = quoteS tx by unfold valS; rw [if_neg (by simp), if_pos htx])
          have CT := Lib.hid (fun W => rtextF kf W)
          rw [htx] at CT
          have HQ := Lib.hid (fun W => rquote tx W hx)
          have hs6 : tx.size ≤ 640 := by rcases HC6.out with h | h; rw [htx] at h; cases h; exact h.2.2
          have z3 := quoteS_leF tx hs6
          clear htx
          go_wp2_with fail
          refine (CT.out _).mono ?_
          rintro e w7 ⟨rfl, rfl⟩
          go_wp2_with fail
          refine (HQ.out _).mono ?_
          rintro e w8 ⟨rfl, hb8⟩
          have HB8 := Lib.hid (below_then HB5.out hb8)
          have z4 : (fieldN kf ++ opN ko).size ≤ 10 := by rw [ByteArray.size_append]; omega
          go_wp2_with fail
          go_ret2
          exact ⟨tup (by rw [HS.out, HV.out]) HE.out.symm, HB8.out⟩
      · have r2 := allow_range (HC2.out.resolve_left hot).1
        have HV := Lib.hid (show valS kf nu tx ot = nameF ot by unfold valS; rw [if_pos hot]; unfold nameF; rw [if_neg (by omega)])
        have NO := Lib.hid (fun W => rnameF ot W)
        have z3 : (nameF ot).size ≤ 8 := by unfold nameF; rw [if_neg (by omega)]; exact field_len _
        have b0 : (ot != 0) = true := by simpa using hot
        clear hot
        go_wp2_with fail
        refine (NO.out _).mono ?_
        rintro e w8 ⟨rfl, hb8⟩
        have HB8 := Lib.hid (below_then HB5.out hb8)
        have z4 : (fieldN kf ++ opN ko).size ≤ 10 := by rw [ByteArray.size_append]; omega
        go_wp2_with fail
        go_ret2
        exact ⟨tup (by rw [HS.out, HV.out]) HE.out.symm, HB8.out⟩
  · have b3 : (checkF fd op nu tx ot 3 != 0) = true := by simpa using h3
    have H3 := Lib.hid h3
    have HT1 := Lib.hid hT1
    clear h3 hT1
    go_wp2_with fail
    refine (HK.out _ _).mono ?_
    rintro e w2 ⟨rfl, hb⟩
    have HB2 := Lib.hid (below_then HB1.out hb)
    by_cases h5 : checkF fd op nu tx ot 5 = 0
    · have HE := Lib.hid (show anyE fd op nu tx ot = 0 by unfold anyE; rw [if_pos ⟨H3.out, h5⟩])
      have hT1 := HT1.out.below hb
      clear q0 q1 q2 q3 q4
      obtain ⟨q0, q1, q2, q3, q4⟩ := test_cells hT1
      rw [h5]
      clear h5 hb HB1
      have HB1 := HB2
      clear HB2 H3 HT1
      obtain ⟨l, hl⟩ := anyE_zero HE.out
      obtain ⟨c1, c2, c3', c4, c5, c6, c7⟩ := checkF_zero hl
      have r1 := allow_range c1
      obtain ⟨kf, rfl⟩ := Int.eq_ofNat_of_zero_le (show 0 ≤ fd by omega)
      obtain ⟨ko, rfl⟩ := Int.eq_ofNat_of_zero_le (show 0 ≤ op by omega)
      have HS := Lib.hid (testS_nat HE.out)
      have NF := Lib.hid (fun W => rnameF kf W)
      rw [nameF_nat (by omega) (by omega)] at NF
      have z1 := field_len kf
      have z2 := op_len ko
      have HOC := Lib.hid (cellsO_at (k := ko) (by omega))
      have lo : (ko : Int) < 9 := by omega
      have hcat : ¬ 9223372036854775807 < (fieldN kf).size + (opN ko).size := by omega
      have HC2 := Lib.hid c2
      have HC6 := Lib.hid c6
      clear hl c1 c2 c3' c4 c5 c6 c7 r1
      go_wp2_with fail
      go_region_law (first
        | (go_simp; go_at_call 63; refine (NF.out _).mono ?_; rintro e w5 ⟨rfl, hb5⟩; have hT5 := Blk.below (by first | exact hT5 | exact test_drew hT1) hb5; have HB5 := Lib.hid (below_then (by first | exact HB5.out | exact HB1.out.drew) hb5); obtain ⟨q0, q1, q2, q3, q4⟩ := test_cells hT5; (try (have hgo := Glob.below hgo hb5 (Nat.le_refl _); have hco := (hgo.cell ko).trans HOC.out)); go_simp)
        | (go_simp; go_at_call 64; refine (rops _).mono ?_; rintro e w5 ⟨rfl, hgo, hb5⟩; have hT5 := Blk.below (by first | exact hT5 | exact test_drew hT1) hb5; have HB5 := Lib.hid (below_then (by first | exact HB5.out | exact HB1.out.drew) hb5); obtain ⟨q0, q1, q2, q3, q4⟩ := test_cells hT5; have hco := (hgo.cell ko).trans HOC.out; go_simp))
      all_goals
        clear hco hgo
        by_cases hot : ot = 0
        · subst hot
          cases htx : textB (kf : Int)
          · have HV := Lib.hid (show valS kf nu tx 0 = numS nu by unfold valS; rw [if_neg (by simp), if_neg (by rw [htx]; decide)])
            have CT := Lib.hid (fun W => rtextF kf W)
            rw [htx] at CT
            have HI := Lib.hid (fun W => rnumber nu hi.1 hi.2 W)
            have z3 := numS_lenF nu hi.1 hi.2
            clear htx
            go_wp2_with fail
            refine (CT.out _).mono ?_
            rintro e w7 ⟨rfl, rfl⟩
            go_wp2_with fail
            refine (HI.out _).mono ?_
            rintro e w8 ⟨rfl, rfl⟩
            have z4 : (fieldN kf ++ opN ko).size ≤ 10 := by rw [ByteArray.size_append]; omega
            go_wp2_with fail
            go_ret2
            exact ⟨tup (by rw [HS.out, HV.out]) HE.out.symm, HB5.out⟩
          · have HV := Lib.hid (show valS kf nu tx 0 = quoteS tx by unfold valS; rw [if_neg (by simp), if_pos htx])
            have CT := Lib.hid (fun W => rtextF kf W)
            rw [htx] at CT
            have HQ := Lib.hid (fun W => rquote tx W hx)
            have hs6 : tx.size ≤ 640 := by rcases HC6.out with h | h; rw [htx] at h; cases h; exact h.2.2
            have z3 := quoteS_leF tx hs6
            clear htx
            go_wp2_with fail
            refine (CT.out _).mono ?_
            rintro e w7 ⟨rfl, rfl⟩
            go_wp2_with fail
            refine (HQ.out _).mono ?_
            rintro e w8 ⟨rfl, hb8⟩
            have HB8 := Lib.hid (below_then HB5.out hb8)
            have z4 : (fieldN kf ++ opN ko).size ≤ 10 := by rw [ByteArray.size_append]; omega
            go_wp2_with fail
            go_ret2
            exact ⟨tup (by rw [HS.out, HV.out]) HE.out.symm, HB8.out⟩
        · have r2 := allow_range (HC2.out.resolve_left hot).1
          have HV := Lib.hid (show valS kf nu tx ot = nameF ot by unfold valS; rw [if_pos hot]; unfold nameF; rw [if_neg (by omega)])
          have NO := Lib.hid (fun W => rnameF ot W)
          have z3 : (nameF ot).size ≤ 8 := by unfold nameF; rw [if_neg (by omega)]; exact field_len _
          have b0 : (ot != 0) = true := by simpa using hot
          clear hot
          go_wp2_with fail
          refine (NO.out _).mono ?_
          rintro e w8 ⟨rfl, hb8⟩
          have HB8 := Lib.hid (below_then HB5.out hb8)
          have z4 : (fieldN kf ++ opN ko).size ≤ 10 := by rw [ByteArray.size_append]; omega
          go_wp2_with fail
          go_ret2
          exact ⟨tup (by rw [HS.out, HV.out]) HE.out.symm, HB8.out⟩
    · have HE := Lib.hid (show anyE fd op nu tx ot = checkF fd op nu tx ot 3 by unfold anyE; rw [if_neg (fun h => h5 h.2)])
      have HE2 := Lib.hid (show testS fd op nu tx ot = ⟨#[]⟩ by unfold testS; rw [HE.out, if_neg H3.out])
      have b5 : (checkF fd op nu tx ot 5 != 0) = true := by simpa using h5
      clear h5
      go_wp2_with fail
      go_ret2
      exact ⟨tup HE2.out.symm HE.out.symm, HB2.out⟩
end Go.Proofs.YtbbihfafkpniiaaGreatDoor
/- OnesCount64 and TrailingZeros64 of Go's library, as List of package mask uses them. -/
namespace Go.Proofs.YtbbihfafkpniiaaGreatDoor
open Go.RowKit
theorem and127 (a : Int) : 0 ≤ bits .and .i64 a 127 ∧ bits .and .i64 a 127 ≤ 127 := by
  show 0 ≤ IntKind.i64.wrap ((BitVec.ofInt 64 a &&& BitVec.ofInt 64 127).toNat : Int) ∧ IntKind.i64.wrap ((BitVec.ofInt 64 a &&& BitVec.ofInt 64 127).toNat : Int) ≤ 127
  have h : (BitVec.ofInt 64 a &&& BitVec.ofInt 64 127).toNat ≤ 127 := by
    rw [BitVec.toNat_and]
    exact Nat.le_trans Nat.and_le_right (by decide)
  generalize (BitVec.ofInt 64 a &&& BitVec.ofInt 64 127).toNat = q at *
  rw [IntKind.wrap_i64]; omega
def CPost (w : World) (e : Ending) (w' : World) : Prop := ∃ n : Nat, e = .returned (.int .i64 (n : Int)) ∧ n ≤ 127 ∧ w = w'
theorem cpost (w : World) (a : Int) : CPost w (.returned (.int .i64 (bits .and .i64 a 127))) w := by
  have h := and127 a
  exact ⟨(bits .and .i64 a 127).toNat, by rw [Int.toNat_of_nonneg h.1], by omega, rfl⟩
attribute [local irreducible] bits
def dbL : List Int := [0, 1, 56, 2, 57, 49, 28, 3, 61, 58, 42, 50, 38, 29, 17, 4, 62, 47, 59, 36, 45, 43, 51, 22, 53, 39, 33, 30, 24, 18, 12, 5, 63, 55, 48, 27, 60, 41, 37, 16, 46, 35, 44, 21, 52, 32, 23, 11, 54, 26, 40, 15, 34, 20, 31, 10, 25, 14, 19, 9, 13, 8, 7, 6]
def dbV : Array Value := (dbL.map (Value.int .u8)).toArray
def Db (w : World) : Prop := Glob w 11 dbV
theorem Db.below {B : Nat} {w w' : World} (h : Db w) (hb : Below B w w') (hB : w.heap.size ≤ B) : Db w' := Glob.below h hb hB
theorem db_at : ∀ k : Fin 32, (2 ^ k.val * 285870213051353865 % 18446744073709551616 / 288230376151711744 < 64) ∧ dbL[2 ^ k.val * 285870213051353865 % 18446744073709551616 / 288230376151711744]? = some (k.val : Int) := by decide +kernel
theorem low_and (x : Nat) (h0 : x ≠ 0) (h : x < 4294967296) : bits .and .u64 (x : Int) (IntKind.u64.wrap (-(x : Int))) = ((2 ^ Lib.ctz 64 x : Nat) : Int) := by
  have hl := (Lib.lowest_bit 64 x h0 (by omega)).1
  have e : IntKind.u64.wrap (-(x : Int)) = ((2 ^ 64 - x : Nat) : Int) := by
    rw [IntKind.wrap_u64]; omega
  rw [e, u64_and_nat x _ (by omega) (by omega), hl]
theorem ctz_spec (x : Nat) (h0 : x ≠ 0) (h : x < 4294967296) : ∃ j, x = 2 ^ Lib.ctz 64 x * (2 * j + 1) ∧ Lib.ctz 64 x < 32 := by
  have e : Lib.ctz 64 x = Lib.ctzFrom 64 x := by unfold Lib.ctz; rw [if_neg h0]
  rw [e]
  obtain ⟨j, hj, _⟩ := Lib.ctzFrom_spec 64 x (by omega) (by omega)
  refine ⟨j, hj, ?_⟩
  rcases Nat.lt_or_ge (Lib.ctzFrom 64 x) 32 with hlt | hge
  · exact hlt
  · exfalso
    have h1 : 2 ^ 32 ≤ 2 ^ Lib.ctzFrom 64 x := Nat.pow_le_pow_right (by omega) hge
    have h2 : 2 ^ Lib.ctzFrom 64 x ≤ x := by
      conv => rhs; rw [hj]
      exact Nat.le_mul_of_pos_right _ (by omega)
    omega
set_option maxHeartbeats 400000 in
theorem trailing (x : Nat) (w : World) (h0 : x ≠ 0) (h : x < 4294967296) (hD : Db w) :
    Calls Tryz.prog 167 #[.int .u64 (x : Int)] w fun e w' => e = .returned (.int .i64 (Lib.ctz 64 x : Int)) ∧ w = w' := by
  obtain ⟨j, hj, hk⟩ := ctz_spec x h0 h
  have ha := low_and x h0 h
  have hb0 : ((x : Int) == 0) = false := by simp; omega
  have hx1 : 0 < (x : Int) := by omega
  generalize Lib.ctz 64 x = k at *
  have hdb := db_at ⟨k, hk⟩
  simp only at hdb
  have hw : IntKind.u64.wrap ((2 : Int) ^ k * 285870213051353865) = ((2 ^ k * 285870213051353865 % 18446744073709551616 : Nat) : Int) := by
    rw [IntKind.wrap_u64, Int.natCast_emod, Int.natCast_mul, Int.natCast_pow]; rfl
  generalize 2 ^ k * 285870213051353865 % 18446744073709551616 = p at *
  have hc : w.cell? ⟨11, p / 288230376151711744, none⟩ = some (.int .u8 (k : Int)) := by
    rw [Glob.cell hD]
    unfold dbV
    simp [hdb.2]
  have q0 : (0 : Int) ≤ (p : Int) / 288230376151711744 := by omega
  have q1 : (p : Int) / 288230376151711744 < 64 := by have := hdb.1; omega
  have ha' : bits .and .u64 (x : Int) (IntKind.u64.wrap (-(x : Int))) = (2 : Int) ^ k := by rw [ha, Int.natCast_pow]; rfl
  clear hj h0 h hD hdb ha
  go_enter Tryz.func167, Tryz.ntmps167
  go_wp2
  go_ret
  exact ⟨rfl, rfl⟩
theorem memF_congr (m m' a : Nat) (h : ∀ i, a ≤ i → hasN m i = hasN m' i) : memF m a = memF m' a := by
  unfold memF
  apply List.filter_congr
  intro x hx
  exact h x (List.mem_range'_1.1 hx).1
theorem memF_skip (m : Nat) : ∀ (d k : Nat), (∀ i, k ≤ i → i < k + d → hasN m i = false) → memF m k = memF m (k + d)
  | 0, k, _ => rfl
  | d + 1, k, h => by
    rw [memF_no m k (h k (Nat.le_refl _) (by omega)), memF_skip m d (k + 1) (fun i h1 h2 => h i (by omega) (by omega))]
    congr 1; omega
theorem bits_low (k j i : Nat) : (2 ^ k * (2 * j + 1)).testBit i = if i < k then false else (2 * j + 1).testBit (i - k) := by
  rw [Nat.testBit_two_pow_mul]
  by_cases h : i < k
  · simp [h]; omega
  · simp [h]; omega
theorem bits_pred (k j i : Nat) : (2 ^ k * (2 * j + 1) - 1).testBit i = if i < k then true else (2 * j).testBit (i - k) := by
  have hp : 0 < 2 ^ k := Nat.pow_pos (by omega)
  have e : 2 ^ k * (2 * j + 1) - 1 = 2 ^ k * (2 * j) + (2 ^ k - 1) := by rw [Nat.mul_add, Nat.mul_one]; omega
  rw [e, Nat.testBit_two_pow_mul_add _ (by omega)]
  by_cases h : i < k
  · simp [h, Nat.testBit_two_pow_sub_one]
  · simp [h]
theorem bits_next (k j i : Nat) : (2 ^ k * (2 * j + 1) &&& (2 ^ k * (2 * j + 1) - 1)).testBit i = if i ≤ k then false else (2 ^ k * (2 * j + 1)).testBit i := by
  rw [Nat.testBit_and, bits_low, bits_pred]
  by_cases h : i < k
  · simp [h]
  · by_cases h2 : i = k
    · subst h2; simp
    · rw [if_neg h, if_neg h, if_neg (by omega)]
      obtain ⟨d, hd⟩ : ∃ d, i - k = d + 1 := ⟨i - k - 1, by omega⟩
      rw [hd, Nat.testBit_succ, Nat.testBit_succ, show (2 * j + 1) / 2 = j by omega, show 2 * j / 2 = j by omega]; simp
/-- The least member, and the others. -/
theorem memF_next (r : Nat) (h0 : r ≠ 0) (h : r < 4294967296) : memF r 0 = Lib.ctz 64 r :: memF (r &&& (r - 1)) 0 := by
  obtain ⟨j, hj, hk⟩ := ctz_spec r h0 h
  generalize Lib.ctz 64 r = k at *
  have l1 : ∀ i, 0 ≤ i → i < 0 + k → hasN r i = false := fun i _ hi => by
    unfold hasN; rw [hj, bits_low, if_pos (by omega)]; simp
  have l2 : hasN r k = true := by
    unfold hasN; rw [hj, bits_low, if_neg (by omega)]; simp [hk]
  have l3 : ∀ i, 0 ≤ i → i < 0 + (k + 1) → hasN (r &&& (r - 1)) i = false := fun i _ hi => by
    unfold hasN; rw [hj, bits_next, if_pos (by omega)]; simp
  have l4 : memF r (k + 1) = memF (r &&& (r - 1)) (k + 1) := memF_congr _ _ _ fun i hi => by
    unfold hasN; rw [hj, bits_next, if_neg (by omega)]
  have e1 := memF_skip r k 0 l1
  have e2 := memF_skip (r &&& (r - 1)) (k + 1) 0 l3
  rw [Nat.zero_add] at e1 e2
  rw [e1, e2, memF_yes r k l2, l4]
theorem memF_mod (m : Nat) : memF (m % 4294967296) 0 = memF m 0 := memF_congr _ _ _ fun i _ => by
  unfold hasN
  rw [show (4294967296 : Nat) = 2 ^ 32 from rfl, Nat.testBit_mod_two_pow]
  by_cases h : i < 32 <;> simp [h]
end Go.Proofs.YtbbihfafkpniiaaGreatDoor

/- Texts of one proof, laid together. -/
import Derived.Test.YtollifnnpihfdaaGreatDoorC19
import Derived.Test.YtollifnnpihfdaaGreatDoorC13
import Derived.Deep.DeepCutAuto
import Derived.Deep.CutBlock
import Derived.StillTailTactics
/- Check of the program's rules returns checkR. -/
namespace Go.Proofs.YtollifnnpihfdaaGreatDoor
open Go.RowKit
theorem checkR_list {r : Rul} (h : r.li < 1 ∨ 5 < r.li) : checkR r = 130 := by unfold checkR; rw [if_pos h]
theorem checkR_act {r : Rul} (h0 : 1 ≤ r.li ∧ r.li ≤ 5) (h : r.ac ≠ 1 ∧ r.ac ≠ 2) : checkR r = 131 := by unfold checkR; rw [if_neg (by omega), if_pos h]
/-- What Check asks of the calls. -/
def callsOk (r : Rul) : Bool := if callsB r.li = true then decide (r.ca ≠ 0 ∧ r.ca < 4294967296) else decide (r.ca = 0)
theorem callsOk_yes {r : Rul} (h : callsB r.li = true) : callsOk r = decide (r.ca ≠ 0 ∧ r.ca < 4294967296) := by unfold callsOk; rw [if_pos h]
theorem callsOk_no {r : Rul} (h : callsB r.li = false) : callsOk r = decide (r.ca = 0) := by unfold callsOk; rw [if_neg (by rw [h]; decide)]
theorem checkR_calls {r : Rul} (h0 : 1 ≤ r.li ∧ r.li ≤ 5) (h1 : r.ac = 1 ∨ r.ac = 2) (h : callsOk r = false) : checkR r = 132 := by
  unfold checkR
  rw [if_neg (by omega), if_neg (by omega)]
  cases hc : callsB r.li
  · rw [callsOk_no hc] at h
    rw [if_neg (by rintro ⟨a, _⟩; cases a), if_pos ⟨rfl, by simpa using h⟩]
  · rw [callsOk_yes hc] at h
    rw [if_pos ⟨rfl, by simp at h; omega⟩]
/-- The rest of Check. -/
def tailR (r : Rul) : Int :=
  if 8 < r.ts.length then 133
  else if firstE r.ts r.li ≠ 0 then firstE r.ts r.li
  else if watchB r.wa r.pe r.li r.pa = false then 134
  else if 31 < r.ke.size then 135
  else 0
theorem checkR_tail {r : Rul} (h0 : 1 ≤ r.li ∧ r.li ≤ 5) (h1 : r.ac = 1 ∨ r.ac = 2) (h : callsOk r = true) : checkR r = tailR r := by
  unfold checkR
  rw [if_neg (by omega), if_neg (by omega)]
  cases hc : callsB r.li
  · rw [callsOk_no hc] at h
    rw [if_neg (by rintro ⟨a, _⟩; cases a), if_neg (by rintro ⟨_, b⟩; simp at h; exact b h)]; rfl
  · rw [callsOk_yes hc] at h
    rw [if_neg (by rintro ⟨_, b⟩; simp at h; omega), if_neg (by rintro ⟨a, _⟩; cases a)]; rfl
theorem tail_long {r : Rul} (h : 8 < r.ts.length) : tailR r = 133 := by unfold tailR; rw [if_pos h]
theorem tail_test {r : Rul} (h0 : ¬ 8 < r.ts.length) {k : Nat} (hk : k < r.ts.length) (h1 : firstE (r.ts.take k) r.li = 0) (h : (r.ts[k]'hk).chk r.li ≠ 0) : tailR r = (r.ts[k]'hk).chk r.li := by
  have := firstE_at hk h1 h
  unfold tailR
  rw [if_neg h0, if_pos (by rw [this]; exact h), this]
theorem tail_watch {r : Rul} (h0 : ¬ 8 < r.ts.length) (h1 : firstE r.ts r.li = 0) (h : watchB r.wa r.pe r.li r.pa = false) : tailR r = 134 := by
  unfold tailR; rw [if_neg h0, if_neg (by rw [h1]; simp), if_pos h]
theorem tail_key {r : Rul} (h0 : ¬ 8 < r.ts.length) (h1 : firstE r.ts r.li = 0) (h2 : watchB r.wa r.pe r.li r.pa = true) (h : 31 < r.ke.size) : tailR r = 135 := by
  unfold tailR; rw [if_neg h0, if_neg (by rw [h1]; simp), if_neg (by rw [h2]; decide), if_pos h]
theorem tail_ok {r : Rul} (h0 : ¬ 8 < r.ts.length) (h1 : firstE r.ts r.li = 0) (h2 : watchB r.wa r.pe r.li r.pa = true) (h : ¬ 31 < r.ke.size) : tailR r = 0 := by
  unfold tailR; rw [if_neg h0, if_neg (by rw [h1]; simp), if_neg (by rw [h2]; decide), if_neg h]
/-- What the contracts of rules ask of sizes. -/
structure SizR (r : Rul) : Prop where
  ca : r.ca < 18446744073709551616
  pa : r.pa.size ≤ 100000
  ke : r.ke.size ≤ 100000
  tx : ∀ t ∈ r.ts, t.tx.size ≤ maxLen
  ln : r.ts.length ≤ 1000000
theorem validB_lt {m : Nat} (h : m < 4294967296) : validB m = true := by unfold validB; simpa using h
theorem validB_ge {m : Nat} (h : ¬ m < 4294967296) : validB m = false := by unfold validB; simpa using h
attribute [local irreducible] checkF watchB callsB firstE tailR checkR cleanB
set_option maxRecDepth 100000 in
set_option maxHeartbeats 4000000 in
theorem vcheckR_bad (r : Rul) (A : Option Addr) (c : Nat) (hz : SizR r) (hb : (r.li < 1 ∨ 5 < r.li) ∨ ((1 ≤ r.li ∧ r.li ≤ 5) ∧ r.ac ≠ 1 ∧ r.ac ≠ 2) ∨ ((1 ≤ r.li ∧ r.li ≤ 5) ∧ (r.ac = 1 ∨ r.ac = 2) ∧ callsOk r = false)) (w : World) :
    Calls Tryz.prog 118 #[rulV r (.slice A r.ts.length c)] w fun e w' => e = .returned (.int .i64 (checkR r)) ∧ Below w.heap.size w w' := by
  obtain ⟨HG, HB⟩ := rul_box w r (.slice A r.ts.length c)
  have HB := Lib.hid HB
  clear HG
  have hca := hz.ca
  clear hz
  rcases hb with hb | ⟨⟨h1, h2⟩, h3, h4⟩ | ⟨⟨h1, h2⟩, h3, h4⟩
  · rw [checkR_list hb]
    rcases hb with hb | hb
    · have d1 : decide (r.li < 1) = true := decide_eq_true hb
      go_enter Tryz.func118, Tryz.ntmps118
      go_wp2_with fail
      go_ret
      exact ⟨rfl, HB.out⟩
    · have d1 : decide (r.li < 1) = false := decide_eq_false (by omega)
      have d2 : decide (5 < r.li) = true := decide_eq_true hb
      go_enter Tryz.func118, Tryz.ntmps118
      go_wp2_with fail
      go_ret
      exact ⟨rfl, HB.out⟩
  · rw [checkR_act ⟨h1, h2⟩ ⟨h3, h4⟩]
    have d1 : decide (r.li < 1) = false := decide_eq_false (by omega)
    have d2 : decide (5 < r.li) = false := decide_eq_false (by omega)
    have b1 : (r.ac == 1) = false := by simpa using h3
    have b2 : (r.ac == 2) = false := by simpa using h4
    have b3 : (r.ac != 1) = true := by simpa using h3
    have b4 : (r.ac != 2) = true := by simpa using h4
    clear h3 h4
    go_enter Tryz.func118, Tryz.ntmps118
    go_wp2_with fail
    go_ret
    exact ⟨rfl, HB.out⟩
  · rw [checkR_calls ⟨h1, h2⟩ h3 h4]
    have d1 : decide (r.li < 1) = false := decide_eq_false (by omega)
    have d2 : decide (5 < r.li) = false := decide_eq_false (by omega)
    have HCB := Lib.hid (fun W => vhasCalls r.li W)
    have HV := Lib.hid (fun W => vvalid r.ca W hca)
    have H5 := Lib.hid (show callsB r.li = false → callsOk r = decide (r.ca = 0) from fun h => callsOk_no h)
    have H6 := Lib.hid (show callsB r.li = true → callsOk r = decide (r.ca ≠ 0 ∧ r.ca < 4294967296) from fun h => callsOk_yes h)
    rw [h4] at H5 H6
    clear h4
    obtain ⟨li, ac, ca, ts, wa, pa, pe, ke⟩ := r
    simp only at d1 d2 HCB HV H5 H6 HB h1 h2 h3 hca ⊢
    cases hc : callsB li
    · rw [hc] at HCB
      have h5 := H5.out hc
      have b5 : ((ca : Int) != 0) = true := by simp at h5 ⊢; exact h5
      clear h5 hc H5 H6
      rcases h3 with rfl | rfl
      all_goals
        go_enter Tryz.func118, Tryz.ntmps118
        go_wp2_with fail
        refine (HCB.out _).mono ?_
        rintro e w1 ⟨rfl, rfl⟩
        go_wp2_with fail
        go_ret
        exact ⟨rfl, HB.out⟩
    · rw [hc] at HCB
      have h5 := H6.out hc
      clear H5 H6 hc
      by_cases hz : ca = 0
      · have b5 : ((ca : Int) == 0) = true := by simp [hz]
        clear h5 hz
        rcases h3 with rfl | rfl
        all_goals
          go_enter Tryz.func118, Tryz.ntmps118
          go_wp2_with fail
          refine (HCB.out _).mono ?_
          rintro e w1 ⟨rfl, rfl⟩
          go_wp2_with fail
          go_ret
          exact ⟨rfl, HB.out⟩
      · have b5 : ((ca : Int) == 0) = false := by simp [hz]
        have hge : ¬ ca < 4294967296 := by simp at h5; have := h5 hz; omega
        rw [validB_ge hge] at HV
        clear h5 hz hge hca
        rcases h3 with rfl | rfl
        all_goals
          go_enter Tryz.func118, Tryz.ntmps118
          go_wp2_with fail
          refine (HCB.out _).mono ?_
          rintro e w1 ⟨rfl, rfl⟩
          go_wp2_with fail
          refine (HV.out _).mono ?_
          rintro e w1 ⟨rfl, rfl⟩
          go_wp2_with fail
          go_ret
          exact ⟨rfl, HB.out⟩
end Go.Proofs.YtollifnnpihfdaaGreatDoor
/- Check of the program's rules, behind the calls. -/
namespace Go.Proofs.YtollifnnpihfdaaGreatDoor
open Go.RowKit
theorem TestsAt.cells {w : World} {B : Nat} {A : Option Addr} {ts : List Tst} (h : TestsAt w B A ts) {k : Nat} (hk : k < ts.length) : ∃ ad : Addr, A = some ad ∧ ad.block < B ∧ w.cell? (ad.add (k * 5)) = some (.int .i64 (ts[k]'hk).fd) ∧ w.cell? ⟨(ad.add (k * 5)).block, (ad.add (k * 5)).off + 1, none⟩ = some (.int .i64 (ts[k]'hk).op) ∧ w.cell? ⟨(ad.add (k * 5)).block, (ad.add (k * 5)).off + 2, none⟩ = some (.int .i64 (ts[k]'hk).nu) ∧ w.cell? ⟨(ad.add (k * 5)).block, (ad.add (k * 5)).off + 3, none⟩ = some (.string (ts[k]'hk).tx) ∧ w.cell? ⟨(ad.add (k * 5)).block, (ad.add (k * 5)).off + 4, none⟩ = some (.int .i64 (ts[k]'hk).ot) := by
  obtain ⟨ad, e, hl, hc⟩ := h k hk
  exact ⟨ad, e, hl, tst_cells hc⟩
theorem ret_ne {x : Int} (h : x ≠ 0) : (x != 0) = true := by simpa using h
theorem firstE_nil (ts : List Tst) (l : Int) : firstE (ts.take 0) l = 0 := rfl
attribute [local irreducible] checkF watchB callsB firstE tailR checkR cleanB
set_option maxRecDepth 100000 in
set_option maxHeartbeats 8000000 in
theorem vcheckR_good (r : Rul) (A : Option Addr) (c n : Nat) (hn : n = r.ts.length) (hz : SizR r) (h1 : 1 ≤ r.li) (h2 : r.li ≤ 5) (h3 : r.ac = 1 ∨ r.ac = 2) (h4 : callsOk r = true) (w : World) (hT : TestsAt w w.heap.size A r.ts) :
    Calls Tryz.prog 118 #[rulV r (.slice A n c)] w fun e w' => e = .returned (.int .i64 (tailR r)) ∧ Below w.heap.size w w' := by
  obtain ⟨HG0, HB0⟩ := rul_box w r (.slice A n c)
  have HT := Lib.hid (hT.keep HB0 (Nat.le_refl _))
  have HB := Lib.hid HB0
  have HG := Lib.hid HG0
  clear HG0 HB0
  have hca := hz.ca
  have hke := hz.ke
  have HW := Lib.hid (fun W => vwatch r A n c hz.pa W)
  have HTX := Lib.hid hz.tx
  have HN := Lib.hid hn
  have hln : n ≤ 1000000 := by rw [hn]; exact hz.ln
  have d1 : decide (r.li < 1) = false := decide_eq_false (by omega)
  have d2 : decide (5 < r.li) = false := decide_eq_false (by omega)
  have HCB := Lib.hid (fun W => vhasCalls r.li W)
  have HV := Lib.hid (fun W => vvalid r.ca W hca)
  have H5 := Lib.hid (show callsB r.li = false → callsOk r = decide (r.ca = 0) from fun h => callsOk_no h)
  have H6 := Lib.hid (show callsB r.li = true → callsOk r = decide (r.ca ≠ 0 ∧ r.ca < 4294967296) from fun h => callsOk_yes h)
  have HLONG := Lib.hid (fun (h : 8 < r.ts.length) => tail_long h)
  have HTST := Lib.hid (fun (h0 : ¬ 8 < r.ts.length) (k : Nat) (hk : k < r.ts.length) (h1 : firstE (r.ts.take k) r.li = 0) (h : (r.ts[k]'hk).chk r.li ≠ 0) => tail_test h0 hk h1 h)
  have HWAT := Lib.hid (fun (h0 : ¬ 8 < r.ts.length) (h1 : firstE r.ts r.li = 0) (h : watchB r.wa r.pe r.li r.pa = false) => tail_watch h0 h1 h)
  have HKEY := Lib.hid (fun (h0 : ¬ 8 < r.ts.length) (h1 : firstE r.ts r.li = 0) (h2 : watchB r.wa r.pe r.li r.pa = true) (h : 31 < r.ke.size) => tail_key h0 h1 h2 h)
  have HOK := Lib.hid (fun (h0 : ¬ 8 < r.ts.length) (h1 : firstE r.ts r.li = 0) (h2 : watchB r.wa r.pe r.li r.pa = true) (h : ¬ 31 < r.ke.size) => tail_ok h0 h1 h2 h)
  rw [h4] at H5 H6
  generalize tailR r = res at *
  clear h4 hz hT hn
  obtain ⟨li, ac, ca, ts, wa, pa, pe, ke⟩ := r
  simp only at *
  have hcl : ∃ cb : Bool, callsB li = cb ∧ ((cb = false ∧ ((ca : Int) != 0) = false) ∨ (cb = true ∧ ((ca : Int) == 0) = false ∧ ca < 4294967296)) := by
    cases hc : callsB li
    · refine ⟨_, rfl, .inl ⟨rfl, ?_⟩⟩
      have := H5.out hc
      simp at this ⊢; exact this
    · refine ⟨_, rfl, .inr ⟨rfl, ?_⟩⟩
      have := H6.out hc
      simp at this ⊢; exact this
  obtain ⟨cb, hcb, hcc⟩ := hcl
  rw [hcb] at HCB
  clear hcb H5 H6
  have HVB := Lib.hid (show cb = true → validB ca = true from fun h => by
    rcases hcc with ⟨h0, _⟩ | ⟨_, _, h6⟩
    · rw [h] at h0; cases h0
    · exact validB_lt h6)
  have hcc2 : (cb = false ∧ ((ca : Int) != 0) = false) ∨ (cb = true ∧ ((ca : Int) == 0) = false) := by
    rcases hcc with ⟨h0, h1⟩ | ⟨h0, h1, _⟩
    · exact .inl ⟨h0, h1⟩
    · exact .inr ⟨h0, h1⟩
  clear hcc
  clear hca
  go_enter Tryz.func118, Tryz.ntmps118
  go_upto_region 3 with (fail)
  go_cut [21] (fun v wx => v = .bool false ∧ wx = w.alloc (.cells (rulC ⟨li, ac, ca, ts, wa, pa, pe, ke⟩ (.slice A n c)) 90))
  case first =>
    rcases h3 with rfl | rfl
    all_goals
      go_wp2_with fail
      go_meet
      exact ⟨rfl, rfl⟩
  case rest =>
    obtain ⟨rfl, rfl⟩ := hcut
    clear h3
    go_upto_if 24 with ((go_at_call 119; refine (HCB.out _).mono ?_; rintro e w1 ⟨rfl, rfl⟩))
    go_cut [] (fun wx => wx = w.alloc (.cells (rulC ⟨li, ac, ca, ts, wa, pa, pe, ke⟩ (.slice A n c)) 90))
    case first =>
      rcases hcc2 with ⟨rfl, b5⟩ | ⟨rfl, b5⟩
      · go_wp2_with fail
        go_meet
        exact rfl
      · go_wp2_with fail
        refine (HV.out _).mono ?_
        rintro e w1 ⟨rfl, rfl⟩
        rw [HVB.out (by first | trivial | rfl)]
        go_wp2_with fail
        go_meet
        exact rfl
    case rest =>
      obtain rfl := hcut
      clear hcc2 HCB HV HVB d1 d2
      by_cases hl : 8 < n
      · have d8 : decide ((8 : Int) < (n : Int)) = true := decide_eq_true (by omega)
        have HR := Lib.hid (HLONG.out (by rw [← HN.out]; exact hl))
        go_wp2_with fail
        go_ret
        exact ⟨by rw [HR.out]; rfl, HB.out⟩
      · have d8 : decide ((8 : Int) < (n : Int)) = false := decide_eq_false (by omega)
        have HL := Lib.hid (show ¬ 8 < ts.length by rw [← HN.out]; exact hl)
        clear HLONG
        go_wp2_with fail
        go_loopw [44] (fun i wr => ∃ k : Nat, k ≤ n ∧ i = .int .i64 (k : Int) ∧ Hid (firstE (ts.take k) li = 0) ∧ RulB wr w.heap.size ⟨li, ac, ca, ts, wa, pa, pe, ke⟩ (.slice A n c) ∧ Below w.heap.size w wr ∧ TestsAt wr w.heap.size A ts) (fun i _ => n - (intOf i).toNat)
        case atStart => exact ⟨0, Nat.zero_le _, rfl, Lib.hid (firstE_nil ts li), HG.out, HB.out, HT.out⟩
        case round =>
          obtain ⟨k, hk, rfl, hfe, hg, hb, ht⟩ := hrel
          clear HG HB HT
          have HG := Lib.hid hg
          have HB := Lib.hid hb
          have HT := Lib.hid ht
          by_cases hlt : k < n
          · have hkl : k < ts.length := by rw [← HN.out]; exact hlt
            obtain ⟨ad, rfl, hadb, t0, t1, t2, t3, t4⟩ := ht.cells hkl
            have q0 := hg.c0
            have HTS := Lib.hid (HTST.out HL.out k hkl hfe.out)
            have HFN := Lib.hid (fun h => firstE_next (l := li) hkl hfe.out h)
            have HCK := Lib.hid (vcheckF (ts[k]'hkl).fd (ts[k]'hkl).op (ts[k]'hkl).nu (ts[k]'hkl).tx (ts[k]'hkl).ot li (HTX.out _ (List.getElem_mem hkl)))
            clear hg hb ht
            unfold Tst.chk at HTS HFN
            generalize ts[k] = t at *
            obtain ⟨fd, op, nu, tx, ot⟩ := t
            simp only at t0 t1 t2 t3 t4 HTS HFN HCK
            have HAL := Lib.hid ((Below.refl wr.heap.size wr).alloc (Nat.le_refl _) (.cells (testC fd op nu tx ot) 85))
            have q0' := RulB.c0 (HG.out.below HAL.out)
            go_wp2_with fail
            refine (HCK.out _).mono ?_
            rintro e w2 ⟨rfl, hb2⟩
            have HB2 := Lib.hid (HB.out.trans ((HAL.out.trans (hb2.mono HAL.out.size)).mono HB.out.size))
            have HG2 := Lib.hid (Blk.below (HG.out.below HAL.out) hb2)
            have HT2 := Lib.hid ((HT.out.keep HAL.out (Nat.le_of_lt HG.out.lt)).keep hb2 (Nat.le_trans (Nat.le_of_lt HG.out.lt) HAL.out.size))
            clear hb2 q0 q0' t0 t1 t2 t3 t4
            by_cases hne : checkF fd op nu tx ot li = 0
            · have HF := Lib.hid (HFN.out hne)
              rw [hne]
              clear hne
              go_wp2_with fail
              go_roundw
              case rel => exact ⟨k + 1, by omega, by go_num, HF, HG2.out, HB2.out, HT2.out⟩
              case measure => simp [intOf]; omega
            · have HR := Lib.hid (HTS.out hne)
              have bn := ret_ne hne
              clear hne
              go_wp2_with fail
              go_ret
              exact ⟨by rw [HR.out]; rfl, HB2.out⟩
          · have hkn : k = n := by omega
            subst hkn
            have HF := Lib.hid (show firstE ts li = 0 by have := hfe.out; rw [HN.out, List.take_length] at this; exact this)
            obtain ⟨q0, q1, q2, q3, q4, q5, q6, q7⟩ := rul_cells hg
            clear hfe hg hb ht hlt
            go_wp2_with fail
            refine (HW.out _).mono ?_
            rintro e w2 ⟨rfl, hb2⟩
            have q7' := RulB.c7 (HG.out.below hb2)
            have HB2 := Lib.hid (below_then HB.out hb2)
            clear hb2 q0 q1 q2 q3 q4 q5 q6 q7
            cases hwb : watchB wa pe li pa
            · have HR := Lib.hid (HWAT.out HL.out HF.out hwb)
              clear hwb
              go_wp2_with fail
              go_ret
              exact ⟨by rw [HR.out]; rfl, HB2.out⟩
            · by_cases hk3 : 31 < ke.size
              · have HR := Lib.hid (HKEY.out HL.out HF.out hwb hk3)
                have d3 : decide ((31 : Int) < (ke.size : Int)) = true := decide_eq_true (by omega)
                clear hwb
                go_wp2_with fail
                go_ret
                exact ⟨by rw [HR.out]; rfl, HB2.out⟩
              · have HR := Lib.hid (HOK.out HL.out HF.out hwb hk3)
                have d3 : decide ((31 : Int) < (ke.size : Int)) = false := decide_eq_false (by omega)
                clear hwb
                go_wp2_with fail
                go_ret
                exact ⟨by rw [HR.out]; rfl, HB2.out⟩
theorem vcheckR (r : Rul) (A : Option Addr) (c n : Nat) (hn : n = r.ts.length) (hz : SizR r) (w : World) (hT : TestsAt w w.heap.size A r.ts) :
    Calls Tryz.prog 118 #[rulV r (.slice A n c)] w fun e w' => e = .returned (.int .i64 (checkR r)) ∧ Below w.heap.size w w' := by
  by_cases h1 : r.li < 1 ∨ 5 < r.li
  · subst hn; exact vcheckR_bad r A c hz (.inl h1) w
  · by_cases h2 : r.ac = 1 ∨ r.ac = 2
    · cases h3 : callsOk r
      · subst hn; exact vcheckR_bad r A c hz (.inr (.inr ⟨⟨by omega, by omega⟩, h2, h3⟩)) w
      · rw [checkR_tail ⟨by omega, by omega⟩ h2 h3]
        exact vcheckR_good r A c n hn hz (by omega) (by omega) h2 h3 w hT
    · subst hn; exact vcheckR_bad r A c hz (.inr (.inl ⟨⟨by omega, by omega⟩, by omega, by omega⟩)) w
end Go.Proofs.YtollifnnpihfdaaGreatDoor
/- Check of the reference's rules returns checkR. -/
namespace Go.Proofs.YtollifnnpihfdaaGreatDoor
open Go.RowKit
theorem callsB_bits (li : Int) : callsB li = ((li == 2) || (li == 3)) := by
  unfold callsB
  by_cases h2 : li = 2
  · simp [h2]
  · by_cases h3 : li = 3
    · simp [h3]
    · simp [h2, h3]
/-- What the walk of the watch wants. -/
structure WatF (wa pe li : Int) (pa : ByteArray) (b : Bool) : Prop where
  eq : watchB wa pe li pa = b
attribute [local irreducible] checkF watchB callsB firstE tailR checkR cleanB callsOk
set_option maxRecDepth 100000 in
set_option maxHeartbeats 16000000 in
theorem rcheckR (r : Rul) (A : Option Addr) (c n : Nat) (hn : n = r.ts.length) (hz : SizR r) (w : World) (hT : TestsAt w w.heap.size A r.ts) :
    Calls Tryz.prog 91 #[rulV r (.slice A n c)] w fun e w' => e = .returned (.int .i64 (checkR r)) ∧ Below w.heap.size w w' := by
  obtain ⟨HG0, HB0⟩ := rul_box w r (.slice A n c)
  have HT := Lib.hid (hT.keep HB0 (Nat.le_refl _))
  have HB := Lib.hid HB0
  have HG := Lib.hid HG0
  clear HG0 HB0
  by_cases hl1 : r.li < 1
  · rw [checkR_list (.inl hl1)]
    have d1 : decide (r.li < 1) = true := decide_eq_true hl1
    clear hT hz hn
    go_enter Tryz.func91, Tryz.ntmps91
    go_wp2_with fail
    go_ret
    exact ⟨rfl, HB.out⟩
  by_cases hl5 : 5 < r.li
  · rw [checkR_list (.inr hl5)]
    have d1 : decide (r.li < 1) = false := decide_eq_false hl1
    have d2 : decide (5 < r.li) = true := decide_eq_true hl5
    clear hT hz hn
    go_enter Tryz.func91, Tryz.ntmps91
    go_wp2_with fail
    go_ret
    exact ⟨rfl, HB.out⟩
  have d1 : decide (r.li < 1) = false := decide_eq_false hl1
  have d2 : decide (5 < r.li) = false := decide_eq_false hl5
  by_cases hac : r.ac = 1 ∨ r.ac = 2
  case neg =>
    rw [checkR_act ⟨by omega, by omega⟩ ⟨fun h => hac (.inl h), fun h => hac (.inr h)⟩]
    have b1 : (r.ac == 1) = false := by simp; omega
    have b2 : (r.ac == 2) = false := by simp; omega
    have b3 : (r.ac != 1) = true := by simp; omega
    have b4 : (r.ac != 2) = true := by simp; omega
    clear hT hz hn hac
    go_enter Tryz.func91, Tryz.ntmps91
    go_wp2_with fail
    go_ret
    exact ⟨rfl, HB.out⟩
  case pos =>
  have HCA := Lib.hid (fun (h : callsOk r = false) => checkR_calls ⟨by omega, by omega⟩ hac h)
  have HTA := Lib.hid (fun (h : callsOk r = true) => checkR_tail ⟨by omega, by omega⟩ hac h)
  have hca := hz.ca
  have hke := hz.ke
  have hpa := hz.pa
  have HTX := Lib.hid hz.tx
  have HN := Lib.hid hn
  have hln : n ≤ 1000000 := by rw [hn]; exact hz.ln
  have HV := Lib.hid (fun W => rvalid r.ca W)
  have H5 := Lib.hid (show callsB r.li = false → callsOk r = decide (r.ca = 0) from fun h => callsOk_no h)
  have H6 := Lib.hid (show callsB r.li = true → callsOk r = decide (r.ca ≠ 0 ∧ r.ca < 4294967296) from fun h => callsOk_yes h)
  have HLONG := Lib.hid (fun (h : 8 < r.ts.length) => tail_long h)
  have HTST := Lib.hid (fun (h0 : ¬ 8 < r.ts.length) (k : Nat) (hk : k < r.ts.length) (h1 : firstE (r.ts.take k) r.li = 0) (h : (r.ts[k]'hk).chk r.li ≠ 0) => tail_test h0 hk h1 h)
  have HWAT := Lib.hid (fun (h0 : ¬ 8 < r.ts.length) (h1 : firstE r.ts r.li = 0) (h : watchB r.wa r.pe r.li r.pa = false) => tail_watch h0 h1 h)
  have HKEY := Lib.hid (fun (h0 : ¬ 8 < r.ts.length) (h1 : firstE r.ts r.li = 0) (h2 : watchB r.wa r.pe r.li r.pa = true) (h : 31 < r.ke.size) => tail_key h0 h1 h2 h)
  have HOK := Lib.hid (fun (h0 : ¬ 8 < r.ts.length) (h1 : firstE r.ts r.li = 0) (h2 : watchB r.wa r.pe r.li r.pa = true) (h : ¬ 31 < r.ke.size) => tail_ok h0 h1 h2 h)
  have HPC := Lib.hid (fun W => rpclean r.pa W hpa)
  generalize tailR r = res at *
  generalize checkR r = cres at *
  generalize callsOk r = cok at *
  clear hz hT hn hl1 hl5
  obtain ⟨li, ac, ca, ts, wa, pa, pe, ke⟩ := r
  simp only at *
  have HCBB := Lib.hid (callsB_bits li)
  go_enter Tryz.func91, Tryz.ntmps91
  go_upto_region 3 with (fail)
  go_cut [21] (fun v wx => v = .bool false ∧ wx = (w.alloc (.cells (rulC ⟨li, ac, ca, ts, wa, pa, pe, ke⟩ (.slice A n c)) 90)))
  case first =>
    rcases hac with rfl | rfl
    all_goals
      go_wp2_with fail
      go_meet
      exact ⟨rfl, rfl⟩
  case rest =>
    obtain ⟨rfl, rfl⟩ := hcut
    clear hac
    go_upto_region 5 with (fail)
    go_cut [3] (fun v wx => v = .bool (callsB li) ∧ wx = (w.alloc (.cells (rulC ⟨li, ac, ca, ts, wa, pa, pe, ke⟩ (.slice A n c)) 90)))
    case first =>
      by_cases h2 : li = 2
      · have b2 : (li == 2) = true := by simpa using h2
        have HX := Lib.hid (show callsB li = true by rw [HCBB.out, b2]; rfl)
        clear h2
        go_wp2_with fail
        go_meet
        exact ⟨by rw [HX.out], rfl⟩
      · have b2 : (li == 2) = false := by simpa using h2
        cases b3 : (li == 3)
        · have HX := Lib.hid (show callsB li = false by rw [HCBB.out, b2, b3]; rfl)
          clear h2
          go_wp2_with fail
          go_meet
          exact ⟨by rw [HX.out], rfl⟩
        · have HX := Lib.hid (show callsB li = true by rw [HCBB.out, b2, b3]; rfl)
          clear h2
          go_wp2_with fail
          go_meet
          exact ⟨by rw [HX.out], rfl⟩
    case rest =>
      obtain ⟨rfl, rfl⟩ := hcut
      clear HCBB
      generalize callsB li = cb at *
      go_upto_region 6 with (fail)
      go_cut [50] (fun v wx => v = .bool (!cok) ∧ wx = (w.alloc (.cells (rulC ⟨li, ac, ca, ts, wa, pa, pe, ke⟩ (.slice A n c)) 90)))
      case first =>
        cases cb
        · have h5 := H5.out rfl
          by_cases hz : ca = 0
          · have b5 : ((ca : Int) != 0) = false := by simp [hz]
            have HX := Lib.hid (show cok = true by rw [h5]; simp [hz])
            clear h5 hz H5 H6
            go_wp2_with fail
            go_meet
            exact ⟨by rw [HX.out]; rfl, rfl⟩
          · have b5 : ((ca : Int) != 0) = true := by simp [hz]
            have HX := Lib.hid (show cok = false by rw [h5]; simp [hz])
            clear h5 hz H5 H6
            go_wp2_with fail
            go_meet
            exact ⟨by rw [HX.out]; rfl, rfl⟩
        · have h6 := H6.out rfl
          by_cases hz : ca = 0
          · have b5 : ((ca : Int) == 0) = true := by simp [hz]
            have HX := Lib.hid (show cok = false by rw [h6]; simp [hz])
            clear h6 hz H5 H6
            go_wp2_with fail
            go_meet
            exact ⟨by rw [HX.out]; rfl, rfl⟩
          · have b5 : ((ca : Int) == 0) = false := by simp [hz]
            by_cases hlt : ca < 4294967296
            · have HX := Lib.hid (show cok = true by rw [h6]; simp [hz, hlt])
              rw [validB_lt hlt] at HV
              clear h6 hz H5 H6 hlt
              go_wp2_with fail
              refine (HV.out _).mono ?_
              rintro e w1 ⟨rfl, rfl⟩
              go_wp2_with fail
              go_meet
              exact ⟨by rw [HX.out]; rfl, rfl⟩
            · have HX := Lib.hid (show cok = false by rw [h6]; simp [hz, hlt])
              rw [validB_ge hlt] at HV
              clear h6 hz H5 H6 hlt
              go_wp2_with fail
              refine (HV.out _).mono ?_
              rintro e w1 ⟨rfl, rfl⟩
              go_wp2_with fail
              go_meet
              exact ⟨by rw [HX.out]; rfl, rfl⟩
      case rest =>
        obtain ⟨rfl, rfl⟩ := hcut
        clear H5 H6 HV hca
        cases cok
        · have HR := Lib.hid (HCA.out rfl)
          go_wp2_with fail
          go_ret
          exact ⟨by rw [HR.out]; rfl, HB.out⟩
        have HCR := Lib.hid (HTA.out rfl)
        clear HCA HTA
        by_cases hl : 8 < n
        · have d8 : decide ((8 : Int) < (n : Int)) = true := decide_eq_true (by omega)
          have HR := Lib.hid (HCR.out.trans (HLONG.out (by rw [← HN.out]; exact hl)))
          go_wp2_with fail
          go_ret
          exact ⟨by rw [HR.out]; rfl, HB.out⟩
        · have d8 : decide ((8 : Int) < (n : Int)) = false := decide_eq_false (by omega)
          have HL := Lib.hid (show ¬ 8 < ts.length by rw [← HN.out]; exact hl)
          clear HLONG
          go_wp2_with fail
          go_loopw [4] (fun i wr => ∃ k : Nat, k ≤ n ∧ i = .int .i64 (k : Int) ∧ Hid (firstE (ts.take k) li = 0) ∧ RulB wr w.heap.size ⟨li, ac, ca, ts, wa, pa, pe, ke⟩ (.slice A n c) ∧ Below w.heap.size w wr ∧ TestsAt wr w.heap.size A ts) (fun i _ => n - (intOf i).toNat)
          case atStart => exact ⟨0, Nat.zero_le _, rfl, Lib.hid (firstE_nil ts li), HG.out, HB.out, HT.out⟩
          case round =>
            obtain ⟨k, hk, rfl, hfe, hg, hb, ht⟩ := hrel
            clear HG HB HT
            have HG := Lib.hid hg
            have HB := Lib.hid hb
            have HT := Lib.hid ht
            have q3 := hg.c3
            by_cases hlt : k < n
            · have hkl : k < ts.length := by rw [← HN.out]; exact hlt
              obtain ⟨ad, rfl, hadb, t0, t1, t2, t3, t4⟩ := ht.cells hkl
              have q0 := hg.c0
              have HTS := Lib.hid (HTST.out HL.out k hkl hfe.out)
              have HFN := Lib.hid (fun h => firstE_next (l := li) hkl hfe.out h)
              have HCK := Lib.hid (rcheckF (ts[k]'hkl).fd (ts[k]'hkl).op (ts[k]'hkl).nu (ts[k]'hkl).tx (ts[k]'hkl).ot li (HTX.out _ (List.getElem_mem hkl)))
              have k0 : (0 : Int) ≤ (k : Int) := by omega
              have kn : (k : Int) < (n : Int) := by omega
              clear hg hb ht
              unfold Tst.chk at HTS HFN
              generalize ts[k] = t at *
              obtain ⟨fd, op, nu, tx, ot⟩ := t
              simp only at t0 t1 t2 t3 t4 HTS HFN HCK
              go_wp2_with fail
              go_still_tail 7, (by kernel_rfl)
              go_wp2_with fail
              refine (HCK.out _).mono ?_
              rintro e w2 ⟨rfl, hb2⟩
              have HB2 := Lib.hid (HB.out.trans (((below_drewN (Below.refl wr.heap.size wr) _).trans hb2).mono HB.out.size))
              have HG2 := Lib.hid (Blk.below (HG.out.drewN _) hb2)
              have HT2 := Lib.hid (((HT.out.keep (below_drewN (Below.refl wr.heap.size wr) _) (Nat.le_of_lt HG.out.lt)).keep hb2 (Nat.le_of_lt HG.out.lt)))
              clear hb2 q0 q3 t0 t1 t2 t3 t4
              by_cases hne : checkF fd op nu tx ot li = 0
              · have HF := Lib.hid (HFN.out hne)
                rw [hne]
                clear hne
                go_wp2_with fail
                go_roundw
                case rel =>
                  (repeat apply Exists.intro)
                  refine ⟨?_, rfl⟩
                  exact ⟨k + 1, by omega, by go_num, HF, HG2.out, HB2.out, HT2.out⟩
                case measure => simp [intOf]; omega
              · have HR := Lib.hid (HCR.out.trans (HTS.out hne))
                have bn := ret_ne hne
                clear hne
                go_wp2_with fail
                go_ret
                exact ⟨by rw [HR.out]; rfl, HB2.out⟩
            · have hkn : k = n := by omega
              subst hkn
              have HF := Lib.hid (show firstE ts li = 0 by have := hfe.out; rw [HN.out, List.take_length] at this; exact this)
              obtain ⟨q0, q1, q2, q3', q4, q5, q6, q7⟩ := rul_cells hg
              have HBAD := Lib.hid (fun h => HCR.out.trans (HWAT.out HL.out HF.out h))
              have HK1 := Lib.hid (fun h k => HCR.out.trans (HKEY.out HL.out HF.out h k))
              have HK2 := Lib.hid (fun h k => HCR.out.trans (HOK.out HL.out HF.out h k))
              clear hfe hg hb ht hlt HTST HWAT HKEY HOK HCR HL HF HT HTX HN
              obtain ⟨kb, hkb, hres⟩ : ∃ kb : Bool, decide ((31 : Int) < (ke.size : Int)) = kb ∧ Hid (watchB wa pe li pa = true → cres = if kb then 135 else 0) := by
                by_cases hk3 : 31 < ke.size
                · exact ⟨true, decide_eq_true (by omega), Lib.hid (fun h => HK1.out h hk3)⟩
                · exact ⟨false, decide_eq_false (by omega), Lib.hid (fun h => HK2.out h hk3)⟩
              clear HK1 HK2 hke
              by_cases h0 : wa = 0
              · subst h0
                by_cases hz : pa.size = 0
                · have e1 := emptyF hz
                  by_cases hq : pe = 0
                  · have HR := Lib.hid (hres.out ((watchB_zero rfl).trans (decide_eq_true ⟨hz, hq⟩)))
                    have b1 : (pe != 0) = false := by simpa using hq
                    clear hz hq hres HBAD
                    cases kb
                    all_goals
                      go_wp2_with fail
                      go_ret
                      exact ⟨by rw [HR.out]; rfl, HB.out⟩
                  · have HR := Lib.hid (HBAD.out ((watchB_zero rfl).trans (decide_eq_false (fun h => hq h.2))))
                    have b1 : (pe != 0) = true := by simpa using hq
                    clear hz hq hres HBAD
                    go_wp2_with fail
                    go_ret
                    exact ⟨by rw [HR.out]; rfl, HB.out⟩
                · have e1 := nonemptyF hz
                  have e2 : pa.toList.isEmpty = false := by simpa using e1
                  have HR := Lib.hid (HBAD.out ((watchB_zero rfl).trans (decide_eq_false (fun h => hz h.1))))
                  clear hz hres HBAD
                  go_wp2_with fail
                  go_ret
                  exact ⟨by rw [HR.out]; rfl, HB.out⟩
              · have b0 : (wa == 0) = false := by simpa using h0
                by_cases h12 : wa = 1 ∨ wa = 2
                · have HW := Lib.hid (watchB_some (pe := pe) (li := li) (pa := pa) h12)
                  by_cases h3 : li = 3
                  · have b3 : (li != 3) = false := by simpa using h3
                    by_cases hs : pa.size ≤ 128
                    · have ds : decide ((128 : Int) < (pa.size : Int)) = false := decide_eq_false (by omega)
                      by_cases hp1 : 1 ≤ pe
                      · have dp1 : decide (pe < 1) = false := decide_eq_false (by omega)
                        by_cases hp2 : pe ≤ 15
                        · have dp2 : decide (15 < pe) = false := decide_eq_false (by omega)
                          have HW2 := Lib.hid (show watchB wa pe li pa = cleanB pa by rw [HW.out, decide_eq_true h3, decide_eq_true (show pa.size ≤ 128 ∧ 1 ≤ pe ∧ pe ≤ 15 from ⟨hs, hp1, hp2⟩)]; simp)
                          clear HW h0 h3 hs hp1 hp2
                          cases hcb : cleanB pa
                          · have HR := Lib.hid (HBAD.out (HW2.out.trans hcb))
                            rw [hcb] at HPC
                            clear hcb hres HBAD HW2
                            rcases h12 with rfl | rfl
                            all_goals
                              go_wp2_with fail
                              refine (HPC.out _).mono ?_
                              rintro e w2 ⟨rfl, hb2⟩
                              have HB2 := Lib.hid (below_then HB.out hb2)
                              obtain ⟨p0, p1, p2, p3, p4, p5, p6, p7⟩ := rul_cells (Blk.below HG.out hb2)
                              clear hb2 q0 q1 q2 q3 q3' q4 q5 q6 q7
                              go_wp2_with fail
                              go_ret
                              exact ⟨by rw [HR.out]; rfl, HB2.out⟩
                          · have HR := Lib.hid (hres.out (HW2.out.trans hcb))
                            rw [hcb] at HPC
                            clear hcb hres HBAD HW2
                            rcases h12 with rfl | rfl <;> cases kb
                            all_goals
                              go_wp2_with fail
                              refine (HPC.out _).mono ?_
                              rintro e w2 ⟨rfl, hb2⟩
                              have HB2 := Lib.hid (below_then HB.out hb2)
                              obtain ⟨p0, p1, p2, p3, p4, p5, p6, p7⟩ := rul_cells (Blk.below HG.out hb2)
                              clear hb2 q0 q1 q2 q3 q3' q4 q5 q6 q7
                              go_wp2_with fail
                              go_ret
                              exact ⟨by rw [HR.out]; rfl, HB2.out⟩
                        · have dp2 : decide (15 < pe) = true := decide_eq_true (by omega)
                          have HR := Lib.hid (HBAD.out (by rw [HW.out, decide_eq_false (show ¬ (pa.size ≤ 128 ∧ 1 ≤ pe ∧ pe ≤ 15) from fun h => hp2 h.2.2)]; simp))
                          clear HW h0 h3 hs hp1 hp2 hres HBAD
                          generalize cleanB pa = cb at *
                          rcases h12 with rfl | rfl <;> cases cb
                          all_goals
                            go_wp2_with fail
                            refine (HPC.out _).mono ?_
                            rintro e w2 ⟨rfl, hb2⟩
                            have HB2 := Lib.hid (below_then HB.out hb2)
                            obtain ⟨p0, p1, p2, p3, p4, p5, p6, p7⟩ := rul_cells (Blk.below HG.out hb2)
                            clear hb2 q0 q1 q2 q3 q3' q4 q5 q6 q7
                            go_wp2_with fail
                            go_ret
                            exact ⟨by rw [HR.out]; rfl, HB2.out⟩
                      · have dp1 : decide (pe < 1) = true := decide_eq_true (by omega)
                        have HR := Lib.hid (HBAD.out (by rw [HW.out, decide_eq_false (show ¬ (pa.size ≤ 128 ∧ 1 ≤ pe ∧ pe ≤ 15) from fun h => hp1 h.2.1)]; simp))
                        clear HW h0 h3 hs hp1 hres HBAD
                        generalize cleanB pa = cb at *
                        rcases h12 with rfl | rfl <;> cases cb
                        all_goals
                          go_wp2_with fail
                          refine (HPC.out _).mono ?_
                          rintro e w2 ⟨rfl, hb2⟩
                          have HB2 := Lib.hid (below_then HB.out hb2)
                          obtain ⟨p0, p1, p2, p3, p4, p5, p6, p7⟩ := rul_cells (Blk.below HG.out hb2)
                          clear hb2 q0 q1 q2 q3 q3' q4 q5 q6 q7
                          go_wp2_with fail
                          go_ret
                          exact ⟨by rw [HR.out]; rfl, HB2.out⟩
                    · have ds : decide ((128 : Int) < (pa.size : Int)) = true := decide_eq_true (by omega)
                      have HR := Lib.hid (HBAD.out (by rw [HW.out, decide_eq_false (show ¬ (pa.size ≤ 128 ∧ 1 ≤ pe ∧ pe ≤ 15) from fun h => hs h.1)]; simp))
                      clear HW h0 h3 hs hres HBAD
                      generalize cleanB pa = cb at *
                      rcases h12 with rfl | rfl <;> cases cb
                      all_goals
                        go_wp2_with fail
                        refine (HPC.out _).mono ?_
                        rintro e w2 ⟨rfl, hb2⟩
                        have HB2 := Lib.hid (below_then HB.out hb2)
                        obtain ⟨p0, p1, p2, p3, p4, p5, p6, p7⟩ := rul_cells (Blk.below HG.out hb2)
                        clear hb2 q0 q1 q2 q3 q3' q4 q5 q6 q7
                        go_wp2_with fail
                        go_ret
                        exact ⟨by rw [HR.out]; rfl, HB2.out⟩
                  · have b3 : (li != 3) = true := by simpa using h3
                    have HR := Lib.hid (HBAD.out (by rw [HW.out, decide_eq_false h3]; simp))
                    clear HW h0 h3 hres HBAD
                    rcases h12 with rfl | rfl
                    all_goals
                      go_wp2_with fail
                      go_ret
                      exact ⟨by rw [HR.out]; rfl, HB.out⟩
                · have h1 : wa ≠ 1 := fun h => h12 (.inl h)
                  have h2 : wa ≠ 2 := fun h => h12 (.inr h)
                  have HR := Lib.hid (HBAD.out (watchB_none h0 h1 h2))
                  have b1 : (wa == 1) = false := by simpa using h1
                  have b2 : (wa == 2) = false := by simpa using h2
                  clear h0 h1 h2 h12 hres HBAD
                  go_wp2_with fail
                  go_ret
                  exact ⟨by rw [HR.out]; rfl, HB.out⟩
end Go.Proofs.YtollifnnpihfdaaGreatDoor

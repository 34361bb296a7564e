/- Texts of one proof, laid together. -/
import Derived.Test.YtbbihfafkpniiaaGreatDoorC13
import Derived.Test.YtbbihfafkpniiaaGreatDoorC16
import Derived.Test.YtbbihfafkpniiaaGreatDoorC10
import Derived.Deep.DeepCutAuto
import Derived.Deep.CutBlock
/- watchFits of the program returns watchB. -/
namespace Go.Proofs.YtbbihfafkpniiaaGreatDoor
open Go.RowKit
attribute [local irreducible] cleanB
theorem rul_box (w : World) (r : Rul) (v : Value) : RulB (w.alloc (.cells (rulC r v) 26)) w.heap.size r v ∧ Below w.heap.size w (w.alloc (.cells (rulC r v) 26)) := ⟨Blk.new w _ _, (Below.refl _ _).alloc (Nat.le_refl _) _⟩
theorem rul_cells {w : World} {g : Nat} {r : Rul} {v : Value} (h : RulB w g r v) : w.cell? ⟨g, 0, none⟩ = some (.int .i64 r.li) ∧ w.cell? ⟨g, 1, none⟩ = some (.int .i64 r.ac) ∧ w.cell? ⟨g, 2, none⟩ = some (.int .u64 (r.ca : Int)) ∧ w.cell? ⟨g, 3, none⟩ = some v ∧ w.cell? ⟨g, 4, none⟩ = some (.int .i64 r.wa) ∧ w.cell? ⟨g, 5, none⟩ = some (.string r.pa) ∧ w.cell? ⟨g, 6, none⟩ = some (.int .i64 r.pe) ∧ w.cell? ⟨g, 7, none⟩ = some (.string r.ke) :=
  ⟨h.c0, h.c1, h.c2, h.c3, h.c4, h.c5, h.c6, h.c7⟩
theorem watchB_zero {wa pe li : Int} {pa : ByteArray} (h : wa = 0) : watchB wa pe li pa = decide (pa.size = 0 ∧ pe = 0) := by unfold watchB; rw [if_pos h]
theorem watchB_some {wa pe li : Int} {pa : ByteArray} (h : wa = 1 ∨ wa = 2) : watchB wa pe li pa = (decide (li = 3) && cleanB pa && decide (pa.size ≤ 128 ∧ 1 ≤ pe ∧ pe ≤ 15)) := by unfold watchB; rw [if_neg (by omega), if_pos h]
theorem watchB_none {wa pe li : Int} {pa : ByteArray} (h0 : wa ≠ 0) (h1 : wa ≠ 1) (h2 : wa ≠ 2) : watchB wa pe li pa = false := by unfold watchB; rw [if_neg h0, if_neg (by omega)]
set_option maxRecDepth 100000 in
set_option maxHeartbeats 4000000 in
theorem vwatch (r : Rul) (A : Option Addr) (n c : Nat) (hp : r.pa.size ≤ 100000) (w : World) : Calls Tryz.prog 49 #[rulV r (.slice A n c)] w fun e w' => e = .returned (.bool (watchB r.wa r.pe r.li r.pa)) ∧ Below w.heap.size w w' := by
  obtain ⟨HG, HB⟩ := rul_box w r (.slice A n c)
  have HB := Lib.hid HB
  have HG := Lib.hid HG
  obtain ⟨li, ac, ca, ts, wa, pa, pe, ke⟩ := r
  simp only at hp HG HB ⊢
  by_cases h0 : wa = 0
  · subst h0
    rw [watchB_zero rfl]
    by_cases hz : pa.size = 0
    · have e1 := emptyF hz
      by_cases hq : pe = 0
      · have HR := Lib.hid (show decide (pa.size = 0 ∧ pe = 0) = true from decide_eq_true ⟨hz, hq⟩)
        have b1 : (pe == 0) = true := by simpa using hq
        rw [HR.out]
        clear hz hq
        go_enter Tryz.func49, Tryz.ntmps49
        go_wp2_with fail
        go_ret
        exact ⟨rfl, HB.out⟩
      · have HR := Lib.hid (show decide (pa.size = 0 ∧ pe = 0) = false from decide_eq_false (fun h => hq h.2))
        have b1 : (pe == 0) = false := by simpa using hq
        rw [HR.out]
        clear hz hq
        go_enter Tryz.func49, Tryz.ntmps49
        go_wp2_with fail
        go_ret
        exact ⟨rfl, HB.out⟩
    · have e1 := nonemptyF hz
      have e2 : pa.toList.isEmpty = false := by simpa using e1
      have HR := Lib.hid (show decide (pa.size = 0 ∧ pe = 0) = false from decide_eq_false (fun h => hz h.1))
      rw [HR.out]
      clear hz
      go_enter Tryz.func49, Tryz.ntmps49
      go_wp2_with fail
      go_ret
      exact ⟨rfl, HB.out⟩
  · by_cases h12 : wa = 1 ∨ wa = 2
    · rw [watchB_some h12]
      have b0 : (wa == 0) = false := by simpa using h0
      have HC := Lib.hid (fun W => vpclean pa W hp)
      by_cases h3 : li = 3
      · subst h3
        by_cases hs : pa.size ≤ 128
        · have hs' : ((pa.size : Int) ≤ 128) := by omega
          by_cases hp1 : 1 ≤ pe
          · by_cases hp2 : pe ≤ 15
            · have HR := Lib.hid (show (decide ((3 : Int) = 3) && cleanB pa && decide (pa.size ≤ 128 ∧ 1 ≤ pe ∧ pe ≤ 15)) = cleanB pa by rw [decide_eq_true (show pa.size ≤ 128 ∧ 1 ≤ pe ∧ pe ≤ 15 from ⟨hs, hp1, hp2⟩)]; simp)
              rw [HR.out]
              generalize cleanB pa = cb at *
              clear hs
              rcases h12 with rfl | rfl
              all_goals
                clear h0 b0
                cases cb
                all_goals
                  go_enter Tryz.func49, Tryz.ntmps49
                  go_wp2_with fail
                  refine (HC.out _).mono ?_
                  rintro e w1 ⟨rfl, hb⟩
                  have HB1 := Lib.hid (HB.out.trans (hb.mono HB.out.size))
                  obtain ⟨q0, q1, q2, q3, q4, q5, q6, q7⟩ := rul_cells (Blk.below HG.out hb)
                  clear hb
                  go_wp2_with fail
                  go_ret
                  exact ⟨rfl, HB1.out⟩
            · have d1 : decide (pe ≤ 15) = false := decide_eq_false hp2
              have HR := Lib.hid (show (decide ((3 : Int) = 3) && cleanB pa && decide (pa.size ≤ 128 ∧ 1 ≤ pe ∧ pe ≤ 15)) = false by rw [decide_eq_false (show ¬ (pa.size ≤ 128 ∧ 1 ≤ pe ∧ pe ≤ 15) from fun h => hp2 h.2.2)]; simp)
              clear hp2
              rw [HR.out]
              generalize cleanB pa = cb at *
              clear hs
              rcases h12 with rfl | rfl
              all_goals
                clear h0 b0
                cases cb
                all_goals
                  go_enter Tryz.func49, Tryz.ntmps49
                  go_wp2_with fail
                  refine (HC.out _).mono ?_
                  rintro e w1 ⟨rfl, hb⟩
                  have HB1 := Lib.hid (HB.out.trans (hb.mono HB.out.size))
                  obtain ⟨q0, q1, q2, q3, q4, q5, q6, q7⟩ := rul_cells (Blk.below HG.out hb)
                  clear hb
                  go_wp2_with fail
                  go_ret
                  exact ⟨rfl, HB1.out⟩
          · have d1 : decide (1 ≤ pe) = false := decide_eq_false hp1
            have HR := Lib.hid (show (decide ((3 : Int) = 3) && cleanB pa && decide (pa.size ≤ 128 ∧ 1 ≤ pe ∧ pe ≤ 15)) = false by rw [decide_eq_false (show ¬ (pa.size ≤ 128 ∧ 1 ≤ pe ∧ pe ≤ 15) from fun h => hp1 h.2.1)]; simp)
            clear hp1
            rw [HR.out]
            generalize cleanB pa = cb at *
            clear hs
            rcases h12 with rfl | rfl
            all_goals
              clear h0 b0
              cases cb
              all_goals
                go_enter Tryz.func49, Tryz.ntmps49
                go_wp2_with fail
                refine (HC.out _).mono ?_
                rintro e w1 ⟨rfl, hb⟩
                have HB1 := Lib.hid (HB.out.trans (hb.mono HB.out.size))
                obtain ⟨q0, q1, q2, q3, q4, q5, q6, q7⟩ := rul_cells (Blk.below HG.out hb)
                clear hb
                go_wp2_with fail
                go_ret
                exact ⟨rfl, HB1.out⟩
        · have hs' : ¬ ((pa.size : Int) ≤ 128) := by omega
          have HR := Lib.hid (show (decide ((3 : Int) = 3) && cleanB pa && decide (pa.size ≤ 128 ∧ 1 ≤ pe ∧ pe ≤ 15)) = false by rw [decide_eq_false (show ¬ (pa.size ≤ 128 ∧ 1 ≤ pe ∧ pe ≤ 15) from fun h => hs h.1)]; simp)
          rw [HR.out]
          generalize cleanB pa = cb at *
          clear hs
          rcases h12 with rfl | rfl
          all_goals
            clear h0 b0
            cases cb
            all_goals
              go_enter Tryz.func49, Tryz.ntmps49
              go_wp2_with fail
              refine (HC.out _).mono ?_
              rintro e w1 ⟨rfl, hb⟩
              have HB1 := Lib.hid (HB.out.trans (hb.mono HB.out.size))
              obtain ⟨q0, q1, q2, q3, q4, q5, q6, q7⟩ := rul_cells (Blk.below HG.out hb)
              clear hb
              go_wp2_with fail
              go_ret
              exact ⟨rfl, HB1.out⟩
      · have HR := Lib.hid (show (decide (li = 3) && cleanB pa && decide (pa.size ≤ 128 ∧ 1 ≤ pe ∧ pe ≤ 15)) = false by rw [decide_eq_false h3]; simp)
        have b3 : (li == 3) = false := by simpa using h3
        rw [HR.out]
        clear h3
        rcases h12 with rfl | rfl
        all_goals
          clear h0 b0
          go_enter Tryz.func49, Tryz.ntmps49
          go_wp2_with fail
          go_ret
          exact ⟨rfl, HB.out⟩
    · have h1 : wa ≠ 1 := fun h => h12 (.inl h)
      have h2 : wa ≠ 2 := fun h => h12 (.inr h)
      rw [watchB_none h0 h1 h2]
      have b0 : (wa == 0) = false := by simpa using h0
      have b1 : (wa == 1) = false := by simpa using h1
      have b2 : (wa == 2) = false := by simpa using h2
      clear h0 h1 h2 h12
      go_enter Tryz.func49, Tryz.ntmps49
      go_wp2_with fail
      go_ret
      exact ⟨rfl, HB.out⟩
end Go.Proofs.YtbbihfafkpniiaaGreatDoor
/- Check of the program's rules returns checkR. -/
namespace Go.Proofs.YtbbihfafkpniiaaGreatDoor
open Go.RowKit
theorem checkR_list {r : Rul} (h : r.li < 1 ∨ 5 < r.li) : checkR r = 130 := by unfold checkR; rw [if_pos h]
theorem checkR_act {r : Rul} (h0 : 1 ≤ r.li ∧ r.li ≤ 5) (h : r.ac ≠ 1 ∧ r.ac ≠ 2) : checkR r = 131 := by unfold checkR; rw [if_neg (by omega), if_pos h]
/-- What Check asks of the calls. -/
def callsOk (r : Rul) : Bool := if callsB r.li = true then decide (r.ca ≠ 0 ∧ r.ca < 4294967296) else decide (r.ca = 0)
theorem callsOk_yes {r : Rul} (h : callsB r.li = true) : callsOk r = decide (r.ca ≠ 0 ∧ r.ca < 4294967296) := by unfold callsOk; rw [if_pos h]
theorem callsOk_no {r : Rul} (h : callsB r.li = false) : callsOk r = decide (r.ca = 0) := by unfold callsOk; rw [if_neg (by rw [h]; decide)]
theorem checkR_calls {r : Rul} (h0 : 1 ≤ r.li ∧ r.li ≤ 5) (h1 : r.ac = 1 ∨ r.ac = 2) (h : callsOk r = false) : checkR r = 132 := by
  unfold checkR
  rw [if_neg (by omega), if_neg (by omega)]
  cases hc : callsB r.li
  · rw [callsOk_no hc] at h
    rw [if_neg (by rintro ⟨a, _⟩; cases a), if_pos ⟨rfl, by simpa using h⟩]
  · rw [callsOk_yes hc] at h
    rw [if_pos ⟨rfl, by simp at h; omega⟩]
/-- The rest of Check. -/
def tailR (r : Rul) : Int :=
  if 8 < r.ts.length then 133
  else if firstE r.ts r.li ≠ 0 then firstE r.ts r.li
  else if watchB r.wa r.pe r.li r.pa = false then 134
  else if 31 < r.ke.size then 135
  else 0
theorem checkR_tail {r : Rul} (h0 : 1 ≤ r.li ∧ r.li ≤ 5) (h1 : r.ac = 1 ∨ r.ac = 2) (h : callsOk r = true) : checkR r = tailR r := by
  unfold checkR
  rw [if_neg (by omega), if_neg (by omega)]
  cases hc : callsB r.li
  · rw [callsOk_no hc] at h
    rw [if_neg (by rintro ⟨a, _⟩; cases a), if_neg (by rintro ⟨_, b⟩; simp at h; exact b h)]; rfl
  · rw [callsOk_yes hc] at h
    rw [if_neg (by rintro ⟨_, b⟩; simp at h; omega), if_neg (by rintro ⟨a, _⟩; cases a)]; rfl
theorem tail_long {r : Rul} (h : 8 < r.ts.length) : tailR r = 133 := by unfold tailR; rw [if_pos h]
theorem tail_test {r : Rul} (h0 : ¬ 8 < r.ts.length) {k : Nat} (hk : k < r.ts.length) (h1 : firstE (r.ts.take k) r.li = 0) (h : (r.ts[k]'hk).chk r.li ≠ 0) : tailR r = (r.ts[k]'hk).chk r.li := by
  have := firstE_at hk h1 h
  unfold tailR
  rw [if_neg h0, if_pos (by rw [this]; exact h), this]
theorem tail_watch {r : Rul} (h0 : ¬ 8 < r.ts.length) (h1 : firstE r.ts r.li = 0) (h : watchB r.wa r.pe r.li r.pa = false) : tailR r = 134 := by
  unfold tailR; rw [if_neg h0, if_neg (by rw [h1]; simp), if_pos h]
theorem tail_key {r : Rul} (h0 : ¬ 8 < r.ts.length) (h1 : firstE r.ts r.li = 0) (h2 : watchB r.wa r.pe r.li r.pa = true) (h : 31 < r.ke.size) : tailR r = 135 := by
  unfold tailR; rw [if_neg h0, if_neg (by rw [h1]; simp), if_neg (by rw [h2]; decide), if_pos h]
theorem tail_ok {r : Rul} (h0 : ¬ 8 < r.ts.length) (h1 : firstE r.ts r.li = 0) (h2 : watchB r.wa r.pe r.li r.pa = true) (h : ¬ 31 < r.ke.size) : tailR r = 0 := by
  unfold tailR; rw [if_neg h0, if_neg (by rw [h1]; simp), if_neg (by rw [h2]; decide), if_neg h]
/-- What the contracts of rules ask of sizes. -/
structure SizR (r : Rul) : Prop where
  ca : r.ca < 18446744073709551616
  pa : r.pa.size ≤ 100000
  ke : r.ke.size ≤ 100000
  tx : ∀ t ∈ r.ts, t.tx.size ≤ maxLen
  ln : r.ts.length ≤ 1000000
theorem validB_lt {m : Nat} (h : m < 4294967296) : validB m = true := by unfold validB; simpa using h
theorem validB_ge {m : Nat} (h : ¬ m < 4294967296) : validB m = false := by unfold validB; simpa using h
attribute [local irreducible] checkF watchB callsB firstE tailR checkR cleanB
set_option maxRecDepth 100000 in
set_option maxHeartbeats 4000000 in
theorem vcheckR_bad (r : Rul) (A : Option Addr) (c : Nat) (hz : SizR r) (hb : (r.li < 1 ∨ 5 < r.li) ∨ ((1 ≤ r.li ∧ r.li ≤ 5) ∧ r.ac ≠ 1 ∧ r.ac ≠ 2) ∨ ((1 ≤ r.li ∧ r.li ≤ 5) ∧ (r.ac = 1 ∨ r.ac = 2) ∧ callsOk r = false)) (w : World) :
    Calls Tryz.prog 27 #[rulV r (.slice A r.ts.length c)] w fun e w' => e = .returned (.int .i64 (checkR r)) ∧ Below w.heap.size w w' := by
  obtain ⟨HG, HB⟩ := rul_box w r (.slice A r.ts.length c)
  have HB := Lib.hid HB
  clear HG
  have hca := hz.ca
  clear hz
  rcases hb with hb | ⟨⟨h1, h2⟩, h3, h4⟩ | ⟨⟨h1, h2⟩, h3, h4⟩
  · rw [checkR_list hb]
    rcases hb with hb | hb
    · have d1 : decide (r.li < 1) = true := decide_eq_true hb
      go_enter Tryz.func27, Tryz.ntmps27
      go_wp2_with fail
      go_ret
      exact ⟨rfl, HB.out⟩
    · have d1 : decide (r.li < 1) = false := decide_eq_false (by omega)
      have d2 : decide (5 < r.li) = true := decide_eq_true hb
      go_enter Tryz.func27, Tryz.ntmps27
      go_wp2_with fail
      go_ret
      exact ⟨rfl, HB.out⟩
  · rw [checkR_act ⟨h1, h2⟩ ⟨h3, h4⟩]
    have d1 : decide (r.li < 1) = false := decide_eq_false (by omega)
    have d2 : decide (5 < r.li) = false := decide_eq_false (by omega)
    have b1 : (r.ac == 1) = false := by simpa using h3
    have b2 : (r.ac == 2) = false := by simpa using h4
    have b3 : (r.ac != 1) = true := by simpa using h3
    have b4 : (r.ac != 2) = true := by simpa using h4
    clear h3 h4
    go_enter Tryz.func27, Tryz.ntmps27
    go_wp2_with fail
    go_ret
    exact ⟨rfl, HB.out⟩
  · rw [checkR_calls ⟨h1, h2⟩ h3 h4]
    have d1 : decide (r.li < 1) = false := decide_eq_false (by omega)
    have d2 : decide (5 < r.li) = false := decide_eq_false (by omega)
    have HCB := Lib.hid (fun W => vhasCalls r.li W)
    have HV := Lib.hid (fun W => vvalid r.ca W hca)
    have H5 := Lib.hid (show callsB r.li = false → callsOk r = decide (r.ca = 0) from fun h => callsOk_no h)
    have H6 := Lib.hid (show callsB r.li = true → callsOk r = decide (r.ca ≠ 0 ∧ r.ca < 4294967296) from fun h => callsOk_yes h)
    rw [h4] at H5 H6
    clear h4
    obtain ⟨li, ac, ca, ts, wa, pa, pe, ke⟩ := r
    simp only at d1 d2 HCB HV H5 H6 HB h1 h2 h3 hca ⊢
    cases hc : callsB li
    · rw [hc] at HCB
      have h5 := H5.out hc
      have b5 : ((ca : Int) != 0) = true := by simp at h5 ⊢; exact h5
      clear h5 hc H5 H6
      rcases h3 with rfl | rfl
      all_goals
        go_enter Tryz.func27, Tryz.ntmps27
        go_wp2_with fail
        refine (HCB.out _).mono ?_
        rintro e w1 ⟨rfl, rfl⟩
        go_wp2_with fail
        go_ret
        exact ⟨rfl, HB.out⟩
    · rw [hc] at HCB
      have h5 := H6.out hc
      clear H5 H6 hc
      by_cases hz : ca = 0
      · have b5 : ((ca : Int) == 0) = true := by simp [hz]
        clear h5 hz
        rcases h3 with rfl | rfl
        all_goals
          go_enter Tryz.func27, Tryz.ntmps27
          go_wp2_with fail
          refine (HCB.out _).mono ?_
          rintro e w1 ⟨rfl, rfl⟩
          go_wp2_with fail
          go_ret
          exact ⟨rfl, HB.out⟩
      · have b5 : ((ca : Int) == 0) = false := by simp [hz]
        have hge : ¬ ca < 4294967296 := by simp at h5; have := h5 hz; omega
        rw [validB_ge hge] at HV
        clear h5 hz hge hca
        rcases h3 with rfl | rfl
        all_goals
          go_enter Tryz.func27, Tryz.ntmps27
          go_wp2_with fail
          refine (HCB.out _).mono ?_
          rintro e w1 ⟨rfl, rfl⟩
          go_wp2_with fail
          refine (HV.out _).mono ?_
          rintro e w1 ⟨rfl, rfl⟩
          go_wp2_with fail
          go_ret
          exact ⟨rfl, HB.out⟩
end Go.Proofs.YtbbihfafkpniiaaGreatDoor
/- Check of the program's rules, behind the calls. -/
namespace Go.Proofs.YtbbihfafkpniiaaGreatDoor
open Go.RowKit
theorem TestsAt.cells {w : World} {B : Nat} {A : Option Addr} {ts : List Tst} (h : TestsAt w B A ts) {k : Nat} (hk : k < ts.length) : ∃ ad : Addr, A = some ad ∧ ad.block < B ∧ w.cell? (ad.add (k * 5)) = some (.int .i64 (ts[k]'hk).fd) ∧ w.cell? ⟨(ad.add (k * 5)).block, (ad.add (k * 5)).off + 1, none⟩ = some (.int .i64 (ts[k]'hk).op) ∧ w.cell? ⟨(ad.add (k * 5)).block, (ad.add (k * 5)).off + 2, none⟩ = some (.int .i64 (ts[k]'hk).nu) ∧ w.cell? ⟨(ad.add (k * 5)).block, (ad.add (k * 5)).off + 3, none⟩ = some (.string (ts[k]'hk).tx) ∧ w.cell? ⟨(ad.add (k * 5)).block, (ad.add (k * 5)).off + 4, none⟩ = some (.int .i64 (ts[k]'hk).ot) := by
  obtain ⟨ad, e, hl, hc⟩ := h k hk
  exact ⟨ad, e, hl, tst_cells hc⟩
theorem ret_ne {x : Int} (h : x ≠ 0) : (x != 0) = true := by simpa using h
theorem firstE_nil (ts : List Tst) (l : Int) : firstE (ts.take 0) l = 0 := rfl
attribute [local irreducible] checkF watchB callsB firstE tailR checkR cleanB
set_option maxRecDepth 100000 in
set_option maxHeartbeats 8000000 in
theorem vcheckR_good (r : Rul) (A : Option Addr) (c n : Nat) (hn : n = r.ts.length) (hz : SizR r) (h1 : 1 ≤ r.li) (h2 : r.li ≤ 5) (h3 : r.ac = 1 ∨ r.ac = 2) (h4 : callsOk r = true) (w : World) (hT : TestsAt w w.heap.size A r.ts) :
    Calls Tryz.prog 27 #[rulV r (.slice A n c)] w fun e w' => e = .returned (.int .i64 (tailR r)) ∧ Below w.heap.size w w' := by
  obtain ⟨HG0, HB0⟩ := rul_box w r (.slice A n c)
  have HT := Lib.hid (hT.keep HB0 (Nat.le_refl _))
  have HB := Lib.hid HB0
  have HG := Lib.hid HG0
  clear HG0 HB0
  have hca := hz.ca
  have hke := hz.ke
  have HW := Lib.hid (fun W => vwatch r A n c hz.pa W)
  have HTX := Lib.hid hz.tx
  have HN := Lib.hid hn
  have hln : n ≤ 1000000 := by rw [hn]; exact hz.ln
  have d1 : decide (r.li < 1) = false := decide_eq_false (by omega)
  have d2 : decide (5 < r.li) = false := decide_eq_false (by omega)
  have HCB := Lib.hid (fun W => vhasCalls r.li W)
  have HV := Lib.hid (fun W => vvalid r.ca W hca)
  have H5 := Lib.hid (show callsB r.li = false → callsOk r = decide (r.ca = 0) from fun h => callsOk_no h)
  have H6 := Lib.hid (show callsB r.li = true → callsOk r = decide (r.ca ≠ 0 ∧ r.ca < 4294967296) from fun h => callsOk_yes h)
  have HLONG := Lib.hid (fun (h : 8 < r.ts.length) => tail_long h)
  have HTST := Lib.hid (fun (h0 : ¬ 8 < r.ts.length) (k : Nat) (hk : k < r.ts.length) (h1 : firstE (r.ts.take k) r.li = 0) (h : (r.ts[k]'hk).chk r.li ≠ 0) => tail_test h0 hk h1 h)
  have HWAT := Lib.hid (fun (h0 : ¬ 8 < r.ts.length) (h1 : firstE r.ts r.li = 0) (h : watchB r.wa r.pe r.li r.pa = false) => tail_watch h0 h1 h)
  have HKEY := Lib.hid (fun (h0 : ¬ 8 < r.ts.length) (h1 : firstE r.ts r.li = 0) (h2 : watchB r.wa r.pe r.li r.pa = true) (h : 31 < r.ke.size) => tail_key h0 h1 h2 h)
  have HOK := Lib.hid (fun (h0 : ¬ 8 < r.ts.length) (h1 : firstE r.ts r.li = 0) (h2 : watchB r.wa r.pe r.li r.pa = true) (h : ¬ 31 < r.ke.size) => tail_ok h0 h1 h2 h)
  rw [h4] at H5 H6
  generalize tailR r = res at *
  clear h4 hz hT hn
  obtain ⟨li, ac, ca, ts, wa, pa, pe, ke⟩ := r
  simp only at *
  have hcl : ∃ cb : Bool, callsB li = cb ∧ ((cb = false ∧ ((ca : Int) != 0) = false) ∨ (cb = true ∧ ((ca : Int) == 0) = false ∧ ca < 4294967296)) := by
    cases hc : callsB li
    · refine ⟨_, rfl, .inl ⟨rfl, ?_⟩⟩
      have := H5.out hc
      simp at this ⊢; exact this
    · refine ⟨_, rfl, .inr ⟨rfl, ?_⟩⟩
      have := H6.out hc
      simp at this ⊢; exact this
  obtain ⟨cb, hcb, hcc⟩ := hcl
  rw [hcb] at HCB
  clear hcb H5 H6
  have HVB := Lib.hid (show cb = true → validB ca = true from fun h => by
    rcases hcc with ⟨h0, _⟩ | ⟨_, _, h6⟩
    · rw [h] at h0; cases h0
    · exact validB_lt h6)
  have hcc2 : (cb = false ∧ ((ca : Int) != 0) = false) ∨ (cb = true ∧ ((ca : Int) == 0) = false) := by
    rcases hcc with ⟨h0, h1⟩ | ⟨h0, h1, _⟩
    · exact .inl ⟨h0, h1⟩
    · exact .inr ⟨h0, h1⟩
  clear hcc
  clear hca
  go_enter Tryz.func27, Tryz.ntmps27
  go_upto_region 3 with (fail)
  go_cut [21] (fun v wx => v = .bool false ∧ wx = w.alloc (.cells (rulC ⟨li, ac, ca, ts, wa, pa, pe, ke⟩ (.slice A n c)) 26))
  case first =>
    rcases h3 with rfl | rfl
    all_goals
      go_wp2_with fail
      go_meet
      exact ⟨rfl, rfl⟩
  case rest =>
    obtain ⟨rfl, rfl⟩ := hcut
    clear h3
    go_upto_if 24 with ((go_at_call 41; refine (HCB.out _).mono ?_; rintro e w1 ⟨rfl, rfl⟩))
    go_cut [] (fun wx => wx = w.alloc (.cells (rulC ⟨li, ac, ca, ts, wa, pa, pe, ke⟩ (.slice A n c)) 26))
    case first =>
      rcases hcc2 with ⟨rfl, b5⟩ | ⟨rfl, b5⟩
      · go_wp2_with fail
        go_meet
        exact rfl
      · go_wp2_with fail
        refine (HV.out _).mono ?_
        rintro e w1 ⟨rfl, rfl⟩
        rw [HVB.out (by first | trivial | rfl)]
        go_wp2_with fail
        go_meet
        exact rfl
    case rest =>
      obtain rfl := hcut
      clear hcc2 HCB HV HVB d1 d2
      by_cases hl : 8 < n
      · have d8 : decide ((8 : Int) < (n : Int)) = true := decide_eq_true (by omega)
        have HR := Lib.hid (HLONG.out (by rw [← HN.out]; exact hl))
        go_wp2_with fail
        go_ret
        exact ⟨by rw [HR.out]; rfl, HB.out⟩
      · have d8 : decide ((8 : Int) < (n : Int)) = false := decide_eq_false (by omega)
        have HL := Lib.hid (show ¬ 8 < ts.length by rw [← HN.out]; exact hl)
        clear HLONG
        go_wp2_with fail
        go_loopw [44] (fun i wr => ∃ k : Nat, k ≤ n ∧ i = .int .i64 (k : Int) ∧ Hid (firstE (ts.take k) li = 0) ∧ RulB wr w.heap.size ⟨li, ac, ca, ts, wa, pa, pe, ke⟩ (.slice A n c) ∧ Below w.heap.size w wr ∧ TestsAt wr w.heap.size A ts) (fun i _ => n - (intOf i).toNat)
        case atStart => exact ⟨0, Nat.zero_le _, rfl, Lib.hid (firstE_nil ts li), HG.out, HB.out, HT.out⟩
        case round =>
          obtain ⟨k, hk, rfl, hfe, hg, hb, ht⟩ := hrel
          clear HG HB HT
          have HG := Lib.hid hg
          have HB := Lib.hid hb
          have HT := Lib.hid ht
          by_cases hlt : k < n
          · have hkl : k < ts.length := by rw [← HN.out]; exact hlt
            obtain ⟨ad, rfl, hadb, t0, t1, t2, t3, t4⟩ := ht.cells hkl
            have q0 := hg.c0
            have HTS := Lib.hid (HTST.out HL.out k hkl hfe.out)
            have HFN := Lib.hid (fun h => firstE_next (l := li) hkl hfe.out h)
            have HCK := Lib.hid (vcheckF (ts[k]'hkl).fd (ts[k]'hkl).op (ts[k]'hkl).nu (ts[k]'hkl).tx (ts[k]'hkl).ot li (HTX.out _ (List.getElem_mem hkl)))
            clear hg hb ht
            unfold Tst.chk at HTS HFN
            generalize ts[k] = t at *
            obtain ⟨fd, op, nu, tx, ot⟩ := t
            simp only at t0 t1 t2 t3 t4 HTS HFN HCK
            have HAL := Lib.hid ((Below.refl wr.heap.size wr).alloc (Nat.le_refl _) (.cells (testC fd op nu tx ot) 40))
            have q0' := RulB.c0 (HG.out.below HAL.out)
            go_wp2_with fail
            refine (HCK.out _).mono ?_
            rintro e w2 ⟨rfl, hb2⟩
            have HB2 := Lib.hid (HB.out.trans ((HAL.out.trans (hb2.mono HAL.out.size)).mono HB.out.size))
            have HG2 := Lib.hid (Blk.below (HG.out.below HAL.out) hb2)
            have HT2 := Lib.hid ((HT.out.keep HAL.out (Nat.le_of_lt HG.out.lt)).keep hb2 (Nat.le_trans (Nat.le_of_lt HG.out.lt) HAL.out.size))
            clear hb2 q0 q0' t0 t1 t2 t3 t4
            by_cases hne : checkF fd op nu tx ot li = 0
            · have HF := Lib.hid (HFN.out hne)
              rw [hne]
              clear hne
              go_wp2_with fail
              go_roundw
              case rel => exact ⟨k + 1, by omega, by go_num, HF, HG2.out, HB2.out, HT2.out⟩
              case measure => simp [intOf]; omega
            · have HR := Lib.hid (HTS.out hne)
              have bn := ret_ne hne
              clear hne
              go_wp2_with fail
              go_ret
              exact ⟨by rw [HR.out]; rfl, HB2.out⟩
          · have hkn : k = n := by omega
            subst hkn
            have HF := Lib.hid (show firstE ts li = 0 by have := hfe.out; rw [HN.out, List.take_length] at this; exact this)
            obtain ⟨q0, q1, q2, q3, q4, q5, q6, q7⟩ := rul_cells hg
            clear hfe hg hb ht hlt
            go_wp2_with fail
            refine (HW.out _).mono ?_
            rintro e w2 ⟨rfl, hb2⟩
            have q7' := RulB.c7 (HG.out.below hb2)
            have HB2 := Lib.hid (below_then HB.out hb2)
            clear hb2 q0 q1 q2 q3 q4 q5 q6 q7
            cases hwb : watchB wa pe li pa
            · have HR := Lib.hid (HWAT.out HL.out HF.out hwb)
              clear hwb
              go_wp2_with fail
              go_ret
              exact ⟨by rw [HR.out]; rfl, HB2.out⟩
            · by_cases hk3 : 31 < ke.size
              · have HR := Lib.hid (HKEY.out HL.out HF.out hwb hk3)
                have d3 : decide ((31 : Int) < (ke.size : Int)) = true := decide_eq_true (by omega)
                clear hwb
                go_wp2_with fail
                go_ret
                exact ⟨by rw [HR.out]; rfl, HB2.out⟩
              · have HR := Lib.hid (HOK.out HL.out HF.out hwb hk3)
                have d3 : decide ((31 : Int) < (ke.size : Int)) = false := decide_eq_false (by omega)
                clear hwb
                go_wp2_with fail
                go_ret
                exact ⟨by rw [HR.out]; rfl, HB2.out⟩
theorem vcheckR (r : Rul) (A : Option Addr) (c n : Nat) (hn : n = r.ts.length) (hz : SizR r) (w : World) (hT : TestsAt w w.heap.size A r.ts) :
    Calls Tryz.prog 27 #[rulV r (.slice A n c)] w fun e w' => e = .returned (.int .i64 (checkR r)) ∧ Below w.heap.size w w' := by
  by_cases h1 : r.li < 1 ∨ 5 < r.li
  · subst hn; exact vcheckR_bad r A c hz (.inl h1) w
  · by_cases h2 : r.ac = 1 ∨ r.ac = 2
    · cases h3 : callsOk r
      · subst hn; exact vcheckR_bad r A c hz (.inr (.inr ⟨⟨by omega, by omega⟩, h2, h3⟩)) w
      · rw [checkR_tail ⟨by omega, by omega⟩ h2 h3]
        exact vcheckR_good r A c n hn hz (by omega) (by omega) h2 h3 w hT
    · subst hn; exact vcheckR_bad r A c hz (.inr (.inl ⟨⟨by omega, by omega⟩, by omega, by omega⟩)) w
end Go.Proofs.YtbbihfafkpniiaaGreatDoor

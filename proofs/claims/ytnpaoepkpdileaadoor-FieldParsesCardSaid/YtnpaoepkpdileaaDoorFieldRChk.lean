/- Check of the reference returns checkF. Written by gen_fieldchk.py -/
import Derived.Test.YtnpaoepkpdileaaDoorFieldChk
namespace Go.Proofs.YtnpaoepkpdileaaDoor
open Go.RowKit
attribute [local irreducible] allowB textB ownerB itemB
set_option maxRecDepth 100000 in
set_option maxHeartbeats 8000000 in
theorem rcheckF (fd op nu : Int) (tx : ByteArray) (ot l : Int) (hx : tx.size ≤ maxLen) (w : World) : Calls Tryd.prog 32 #[testV fd op nu tx ot, .int .i64 l] w fun e w' => e = .returned (.int .i64 (checkF fd op nu tx ot l)) ∧ Below w.heap.size w w' := by
  unfold maxLen at hx
  have CA := Lib.hid (fun W => rallowF l fd W)
  have CO := Lib.hid (fun W => rallowF l ot W)
  have WF := Lib.hid (fun W => rownerF fd W)
  have WO := Lib.hid (fun W => rownerF ot W)
  have CT := Lib.hid (fun W => rtextF fd W)
  have HB := Lib.hid ((Below.refl w.heap.size w).alloc (Nat.le_refl _) (.cells (testC fd op nu tx ot) 23))
  go_enter Tryd.func32, Tryd.ntmps32
  go_wp2_with fail
  refine (CA.out _).mono ?_
  rintro e w1 ⟨rfl, rfl⟩
  cases ha : allowB l fd
  · go_wp2_with fail
    go_ret
    exact ⟨ret_i (show _ = _ from (show checkF _ _ _ _ _ _ = 120 by unfold checkF; simp [ha]).symm), HB.out⟩
  · by_cases h0 : ot = 0
    · subst h0
      by_cases ho : op < 1
      · go_wp2_with fail
        go_ret
        exact ⟨ret_i (show _ = _ from (show checkF _ _ _ _ _ _ = 121 by unfold checkF; simp [ha, ho]).symm), HB.out⟩
      · by_cases hp : 8 < op
        · go_wp2_with fail
          go_ret
          exact ⟨ret_i (show _ = _ from (show checkF _ _ _ _ _ _ = 121 by unfold checkF; simp [ha, ho, hp]).symm), HB.out⟩
        · by_cases h2 : op ≤ 2
          · have h12 : op = 1 ∨ op = 2 := by omega
            have HQ := Lib.hid h2
            rcases h12 with rfl | rfl
            all_goals
              go_wp2_with fail
              refine (CT.out _).mono ?_
              rintro e w1 ⟨rfl, rfl⟩
              cases ht : textB fd
              · have HT := Lib.hid ht
                by_cases hz : tx.size = 0
                · have e0 := emptyF hz
                  have e1 : tx.toList.isEmpty = true := by rw [e0]; rfl
                  go_wp2_with fail
                  refine (CT.out _).mono ?_
                  rintro e w1 ⟨rfl, rfl⟩
                  rw [HT.out]
                  go_wp2_with fail
                  go_ret
                  exact ⟨ret_i (show _ = _ from (show checkF _ _ _ _ _ _ = 0 by unfold checkF; simp [ha, ht, hz]).symm), HB.out⟩
                · have e0 := nonemptyF hz
                  have e1 : tx.toList.isEmpty = false := by simpa using e0
                  go_wp2_with fail
                  refine (CT.out _).mono ?_
                  rintro e w1 ⟨rfl, rfl⟩
                  rw [HT.out]
                  go_wp2_with fail
                  go_ret
                  exact ⟨ret_i (show _ = _ from (show checkF _ _ _ _ _ _ = 122 by unfold checkF; simp [ha, ht, hz]).symm), HB.out⟩
              · have HT := Lib.hid ht
                by_cases hnu : nu ≠ 0
                · go_wp2_with fail
                  go_ret
                  exact ⟨ret_i (show _ = _ from (show checkF _ _ _ _ _ _ = 122 by unfold checkF; simp [ha, ht, hnu]).symm), HB.out⟩
                · have hnu : nu = 0 := by simpa using hnu
                  subst hnu
                  by_cases hz : tx.size = 0
                  · have e0 := emptyF hz
                    have e1 : tx.toList.isEmpty = true := by rw [e0]; rfl
                    go_wp2_with fail
                    go_ret
                    exact ⟨ret_i (show _ = _ from (show checkF _ _ _ _ _ _ = 122 by unfold checkF; simp [ha, ht, hz]).symm), HB.out⟩
                  · have e0 := nonemptyF hz
                    have e1 : tx.toList.isEmpty = false := by simpa using e0
                    by_cases hg : 640 < tx.size
                    · go_wp2_with fail
                      go_ret
                      exact ⟨ret_i (show _ = _ from (show checkF _ _ _ _ _ _ = 122 by unfold checkF; simp [ha, ht, hz, hg]).symm), HB.out⟩
                    · go_wp2_with fail
                      refine (CT.out _).mono ?_
                      rintro e w1 ⟨rfl, rfl⟩
                      rw [HT.out]
                      go_wp2_with fail
                      go_ret
                      exact ⟨ret_i (show _ = _ from (show checkF _ _ _ _ _ _ = 0 by unfold checkF; simp [ha, ht, hz, hg]).symm), HB.out⟩
          · have h2 : 2 < op := by omega
            have n1 : (op != 1) = true := by simp; omega
            have n2 : (op != 2) = true := by simp; omega
            go_wp2_with fail
            refine (CT.out _).mono ?_
            rintro e w1 ⟨rfl, rfl⟩
            cases ht : textB fd
            · have HT := Lib.hid ht
              go_wp2_with fail
              refine (CT.out _).mono ?_
              rintro e w1 ⟨rfl, rfl⟩
              rw [HT.out]
              by_cases hz : tx.size = 0
              · have e0 := emptyF hz
                have e1 : tx.toList.isEmpty = true := by rw [e0]; rfl
                go_wp2_with fail
                refine (CT.out _).mono ?_
                rintro e w1 ⟨rfl, rfl⟩
                rw [HT.out]
                go_wp2_with fail
                go_ret
                exact ⟨ret_i (show _ = _ from (show checkF _ _ _ _ _ _ = 0 by unfold checkF; simp [ha, ht, ho, hp, h2, hz]).symm), HB.out⟩
              · have e0 := nonemptyF hz
                have e1 : tx.toList.isEmpty = false := by simpa using e0
                go_wp2_with fail
                refine (CT.out _).mono ?_
                rintro e w1 ⟨rfl, rfl⟩
                rw [HT.out]
                go_wp2_with fail
                go_ret
                exact ⟨ret_i (show _ = _ from (show checkF _ _ _ _ _ _ = 122 by unfold checkF; simp [ha, ht, ho, hp, h2, hz]).symm), HB.out⟩
            · go_wp2_with fail
              go_ret
              exact ⟨ret_i (show _ = _ from (show checkF _ _ _ _ _ _ = 121 by unfold checkF; simp [ha, ht, ho, hp, h2]).symm), HB.out⟩
    · have b0 : (ot != 0) = true := by simpa using h0
      go_wp2_with fail
      refine (CO.out _).mono ?_
      rintro e w1 ⟨rfl, rfl⟩
      cases hb : allowB l ot
      · go_wp2_with fail
        go_ret
        exact ⟨ret_i (show _ = _ from (show checkF _ _ _ _ _ _ = 120 by unfold checkF; simp [ha, h0, hb]).symm), HB.out⟩
      · go_wp2_with fail
        refine (WF.out _).mono ?_
        rintro e w1 ⟨rfl, rfl⟩
        cases hc : ownerB fd
        · go_wp2_with fail
          go_ret
          exact ⟨ret_i (show _ = _ from (show checkF _ _ _ _ _ _ = 120 by unfold checkF; simp [ha, h0, hb, hc]).symm), HB.out⟩
        · go_wp2_with fail
          refine (WO.out _).mono ?_
          rintro e w1 ⟨rfl, rfl⟩
          cases hd : ownerB ot
          · go_wp2_with fail
            go_ret
            exact ⟨ret_i (show _ = _ from (show checkF _ _ _ _ _ _ = 120 by unfold checkF; simp [ha, h0, hb, hc, hd]).symm), HB.out⟩
          · have HT := Lib.hid (owner_text hc)
            by_cases ho : op < 1
            · go_wp2_with fail
              go_ret
              exact ⟨ret_i (show _ = _ from (show checkF _ _ _ _ _ _ = 121 by unfold checkF; simp [ha, h0, hb, hc, hd, HT.out, ho]).symm), HB.out⟩
            · by_cases hp : 8 < op
              · go_wp2_with fail
                go_ret
                exact ⟨ret_i (show _ = _ from (show checkF _ _ _ _ _ _ = 121 by unfold checkF; simp [ha, h0, hb, hc, hd, HT.out, ho, hp]).symm), HB.out⟩
              · by_cases h2 : op ≤ 2
                · have h12 : op = 1 ∨ op = 2 := by omega
                  rcases h12 with rfl | rfl
                  all_goals
                    by_cases hnu : nu ≠ 0
                    · go_wp2_with fail
                      go_ret
                      exact ⟨ret_i (show _ = _ from (show checkF _ _ _ _ _ _ = 122 by unfold checkF; simp [ha, h0, hb, hc, hd, HT.out, hnu]).symm), HB.out⟩
                    · have hnu : nu = 0 := by simpa using hnu
                      subst hnu
                      by_cases hz : tx.size = 0
                      · have e0 := emptyF hz
                        have e1 : tx.toList.isEmpty = true := by rw [e0]; rfl
                        go_wp2_with fail
                        refine (CT.out _).mono ?_
                        rintro e w1 ⟨rfl, rfl⟩
                        rw [HT.out]
                        go_wp2_with fail
                        go_ret
                        exact ⟨ret_i (show _ = _ from (show checkF _ _ _ _ _ _ = 0 by unfold checkF; simp [ha, h0, hb, hc, hd, HT.out, hz]).symm), HB.out⟩
                      · have e0 := nonemptyF hz
                        have e1 : tx.toList.isEmpty = false := by simpa using e0
                        go_wp2_with fail
                        go_ret
                        exact ⟨ret_i (show _ = _ from (show checkF _ _ _ _ _ _ = 122 by unfold checkF; simp [ha, h0, hb, hc, hd, HT.out, hz]).symm), HB.out⟩
                · have h2 : 2 < op := by omega
                  have n1 : (op != 1) = true := by simp; omega
                  have n2 : (op != 2) = true := by simp; omega
                  go_wp2_with fail
                  refine (CT.out _).mono ?_
                  rintro e w1 ⟨rfl, rfl⟩
                  rw [HT.out]
                  go_wp2_with fail
                  go_ret
                  exact ⟨ret_i (show _ = _ from (show checkF _ _ _ _ _ _ = 121 by unfold checkF; simp [ha, h0, hb, hc, hd, HT.out, ho, hp, h2]).symm), HB.out⟩
end Go.Proofs.YtnpaoepkpdileaaDoor

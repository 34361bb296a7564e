/- Check of the reference returns callE. -/
import Derived.Test.YtokkbboahajbhaaGreatDoorCallVChk
namespace Go.Proofs.YtokkbboahajbhaaGreatDoor
open Go.RowKit
theorem empty_list {s : ByteArray} (h : s.size = 0) : s.toList = [] := by
  rw [ByteArray.toList_eq]; exact List.eq_nil_of_length_eq_zero (by rw [Array.length_toList]; exact h)
theorem nonempty_list {s : ByteArray} (h : s.size ≠ 0) : s.toList ≠ [] := by
  rw [ByteArray.toList_eq]; intro e; exact h (by have := congrArg List.length e; rw [Array.length_toList] at this; exact this)
attribute [local irreducible] rowC cellsC rowI callE zeroB longB
set_option maxRecDepth 100000 in
set_option maxHeartbeats 2000000 in
theorem rcheck10 (z : Int) (a : Nat → Int) (P : Option Addr) (cp : Nat) (A : Option Addr) (ca : Nat) (ps gs : List ByteArray) (w : World) (B : Nat) (hB : B ≤ w.heap.size) (hP : StrsAt w B P ps) (hA : StrsAt w B A gs) (hlp : ps.length ≤ 1000) (hlg : gs.length ≤ 1000) (hsp : ∀ s ∈ ps, s.size ≤ maxLen) (hsg : ∀ s ∈ gs, s.size ≤ maxLen) :
    Calls Tryz.prog 18 #[callV z a P ps.length cp A gs.length ca] w fun e w' => e = .returned (.int .i64 (callE z a ps gs)) ∧ Below w.heap.size w w' := by
  have HP := Lib.hid hP
  have HA := Lib.hid hA
  have HSP := Lib.hid hsp
  have HSG := Lib.hid hsg
  clear hP hA hsp hsg
  have HG := Lib.hid (rget z)
  have hsm : (rowI z).nums ≤ 2 ∧ (rowI z).pths ≤ 2 ∧ (rowI z).least ≤ 1 ∧ (rowI z).most ≤ 4 ∧ (rowI z).name.size ≤ 8 := by
    by_cases hz : z < 0 ∨ 22 ≤ z
    · rw [rowI_name_out hz]; decide
    · obtain ⟨n, rfl⟩ := Int.eq_ofNat_of_zero_le (show 0 ≤ z by omega)
      rw [rowI_nat]; exact rowC_small n
  generalize hr : rowI z = r at *
  have HR := Lib.hid (callE_row (a := a) (ps := ps) (gs := gs) hr)
  clear hr
  obtain ⟨nm, m, p, l, u⟩ := r
  obtain ⟨s1, s2, s3, s4, _⟩ := hsm
  by_cases hnm : nm.size = 0
  · have e0 : nm.toList.isEmpty = true := by rw [empty_list hnm]; rfl
    have e1 := empty_list hnm
    have HN := Lib.hid hnm
    clear hnm
    go_enter Tryz.func18, Tryz.ntmps18
    go_wp2_with fail
    refine (HG.out _).mono ?_
    rintro e w1 ⟨rfl, hb⟩
    unfold CRow.val
    go_wp2_with fail
    go_ret
    exact ⟨by rw [HR.out, if_pos HN.out]; rfl, (unbox' hb).alloc (unbox' hb).size _⟩
  · have e0 : nm.toList.isEmpty = false := by simpa using nonempty_list hnm
    have e1 := nonempty_list hnm
    go_enter Tryz.func18, Tryz.ntmps18
    go_wp2_with fail
    refine (HG.out _).mono ?_
    rintro e w1 ⟨rfl, hb⟩
    unfold CRow.val
    have HG1 := (Blk.new w _ _).keep (boxed hb) (by omega)
    have HB1 := unbox' hb
    clear hb
    go_wp2_with fail
    have HG2 := HG1.alloc (.cells #[.string nm, .int .i64 (m : Int), .int .i64 (p : Int), .int .i64 (l : Int), .int .i64 (u : Int)] 49)
    have HRW := Blk.new w1 #[.string nm, .int .i64 (m : Int), .int .i64 (p : Int), .int .i64 (l : Int), .int .i64 (u : Int)] 49
    have HB := Lib.hid (HB1.alloc HB1.size (.cells #[.string nm, .int .i64 (m : Int), .int .i64 (p : Int), .int .i64 (l : Int), .int .i64 (u : Int)] 49))
    clear HG1 HB1
    generalize w1.alloc (.cells #[.string nm, .int .i64 (m : Int), .int .i64 (p : Int), .int .i64 (l : Int), .int .i64 (u : Int)] 49) = w2 at *
    generalize w1.heap.size = g1 at *
    have q5 := HG2.cell 5
    have q6 := HG2.cell 6
    have HQ := Lib.hid (fun k hk => a_cell HG2 k hk)
    have r1 := HRW.cell 1
    have r2 := HRW.cell 2
    have r3 := HRW.cell 3
    have r4 := HRW.cell 4
    clear HRW HG2
    have HP1 := Lib.hid (HP.out.keep HB.out hB)
    have HA1 := Lib.hid (HA.out.keep HB.out hB)
    go_loop [4] (fun i => ∃ k : Nat, m ≤ k ∧ k ≤ 4 ∧ i = .int .i64 k ∧ Hid (∀ j, m ≤ j → j < k → a j = 0)) (fun i => 4 - (intOf i).toNat)
    case atStart => exact ⟨m, Nat.le_refl _, by omega, rfl, fun j h1 h2 => by omega⟩
    case round =>
      obtain ⟨k, hk0, hk, rfl, hno⟩ := hrel
      by_cases hlt : k < 4
      · have hcell := HQ.out k (by omega)
        by_cases ha : a k = 0
        · have HN := Lib.hid (show ∀ j, m ≤ j → j < k + 1 → a j = 0 from fun j h1 h2 => by
            by_cases e : j = k
            · rw [e]; exact ha
            · exact hno.out j h1 (by omega))
          rw [ha] at hcell
          clear ha
          go_wp2_with fail
          go_round
          case rel => exact ⟨k + 1, by omega, by omega, by go_num, HN.out⟩
          case measure => simp [intOf]; omega
        · have HZ := Lib.hid (zeroB_no (m := m) (a := a) (j := k) (by omega) (by omega) ha)
          have hab : (a k != 0) = true := by simpa using ha
          clear ha
          generalize a k = v at *
          go_wp2_with fail
          go_ret
          exact ⟨by rw [HR.out, if_neg hnm, if_pos HZ.out]; rfl, HB.out⟩
      · have HZ := Lib.hid (zeroB_yes (m := m) (a := a) fun j h1 h2 => hno.out j h1 (by omega))
        clear hno
        go_wp2_with fail
        all_goals try (go_ret; exact ⟨by rw [HR.out, if_neg hnm, if_neg (by rw [HZ.out]; simp), if_pos (by omega)]; rfl, HB.out⟩)
        have HK := Lib.hid (show ¬ (ps.length ≠ p ∨ gs.length < l ∨ u < gs.length) by omega)
        go_loop [5] (fun i => ∃ k : Nat, k ≤ ps.length ∧ i = .int .i64 k ∧ Hid (∀ j (hj : j < ps.length), j < k → ps[j].size ≤ 128)) (fun i => ps.length - (intOf i).toNat)
        case atStart => exact ⟨0, Nat.zero_le _, rfl, fun j _ hj => by omega⟩
        case round =>
          obtain ⟨k, hk, rfl, hno⟩ := hrel
          by_cases hlt : k < ps.length
          · obtain ⟨ad, e, hadb, hc⟩ := HP1.out k hlt
            cases e
            have hsz := HSP.out _ (List.getElem_mem hlt)
            unfold maxLen at hsz
            by_cases ho : 128 < ps[k].size
            · have HL := Lib.hid (long_at hlt ho)
              generalize ps[k] = s at *
              go_wp2_with fail
              go_ret
              exact ⟨by rw [HR.out, if_neg hnm, if_neg (by rw [HZ.out]; simp), if_neg HK.out, if_pos (.inl HL.out)]; rfl, HB.out⟩
            · have HN := Lib.hid (show ∀ j (hj : j < ps.length), j < k + 1 → ps[j].size ≤ 128 from fun j hj hjk => by
                by_cases e : j = k
                · subst e; omega
                · exact hno.out j hj (by omega))
              generalize ps[k] = s at *
              go_wp2_with fail
              go_round
              case rel => exact ⟨k + 1, by omega, by go_num, HN.out⟩
              case measure => simp [intOf]; omega
          · have L1 := Lib.hid (long_all fun j hj => hno.out j hj (by omega))
            clear hno
            go_wp2_with fail
            go_loop [6] (fun i => ∃ k : Nat, k ≤ gs.length ∧ i = .int .i64 k ∧ Hid (∀ j (hj : j < gs.length), j < k → gs[j].size ≤ 64)) (fun i => gs.length - (intOf i).toNat)
            case atStart => exact ⟨0, Nat.zero_le _, rfl, fun j _ hj => by omega⟩
            case round =>
              obtain ⟨k, hk, rfl, hno⟩ := hrel
              by_cases hlt : k < gs.length
              · obtain ⟨ad, e, hadb, hc⟩ := HA1.out k hlt
                cases e
                have hsz := HSG.out _ (List.getElem_mem hlt)
                unfold maxLen at hsz
                by_cases ho : 64 < gs[k].size
                · have HL := Lib.hid (long_at hlt ho)
                  generalize gs[k] = s at *
                  go_wp2_with fail
                  go_ret
                  exact ⟨by rw [HR.out, if_neg hnm, if_neg (by rw [HZ.out]; simp), if_neg HK.out, if_pos (.inr HL.out)]; rfl, HB.out⟩
                · have HN := Lib.hid (show ∀ j (hj : j < gs.length), j < k + 1 → gs[j].size ≤ 64 from fun j hj hjk => by
                    by_cases e : j = k
                    · subst e; omega
                    · exact hno.out j hj (by omega))
                  generalize gs[k] = s at *
                  go_wp2_with fail
                  go_round
                  case rel => exact ⟨k + 1, by omega, by go_num, HN.out⟩
                  case measure => simp [intOf]; omega
              · have L2 := Lib.hid (long_all fun j hj => hno.out j hj (by omega))
                clear hno
                go_wp2_with fail
                go_ret
                exact ⟨by rw [HR.out, if_neg hnm, if_neg (by rw [HZ.out]; simp), if_neg HK.out, if_neg (by rw [L1.out, L2.out]; simp)]; rfl, HB.out⟩
end Go.Proofs.YtokkbboahajbhaaGreatDoor

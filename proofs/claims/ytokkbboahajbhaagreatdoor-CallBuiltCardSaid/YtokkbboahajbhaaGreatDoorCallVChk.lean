/- Check of the program returns callE. -/
import Derived.Test.YtokkbboahajbhaaGreatDoorCallChk
namespace Go.Proofs.YtokkbboahajbhaaGreatDoor
open Go.RowKit
theorem callE_row {z : Int} {a : Nat → Int} {ps gs : List ByteArray} {nm : ByteArray} {m p l u : Nat} (h : rowI z = ⟨nm, m, p, l, u⟩) : callE z a ps gs =
  if nm.size = 0 then 100 else if zeroB m a = false then 101 else if ps.length ≠ p ∨ gs.length < l ∨ u < gs.length then 101 else if longB ps 128 = true ∨ longB gs 64 = true then 102 else 0 := by unfold callE; rw [h]
theorem a_cell {w : World} {g : Nat} {t : TypeId} {z : Int} {a : Nat → Int} {x y : Value} (h : Blk w g t #[.int .i64 z, .int .i64 (a 0), .int .i64 (a 1), .int .i64 (a 2), .int .i64 (a 3), x, y]) (k : Nat) (hk : k < 4) : w.cell? ⟨g, 1 + k, none⟩ = some (.int .i64 (a k)) := by
  rw [h.cell]
  match k, hk with
  | 0, _ => rfl
  | 1, _ => rfl
  | 2, _ => rfl
  | 3, _ => rfl
theorem rowC_name {n : Nat} (h : n < 22) : (rowC n).name.size ≠ 0 := by
  have H : ∀ m : Fin 22, (rowC m).name.size ≠ 0 := by decide +kernel
  exact H ⟨n, h⟩
theorem slice_from (g m : Nat) (hm : m ≤ 2) (w : World) : (Instr.sliceAt 25 (.pointer (some ⟨g, 1, none⟩)) (some (.int .i64 (m : Int))) none none).run Tryz.prog w = .ok (.slice (some ⟨g, 1 + m, none⟩) (4 - m) (4 - m)) w := by
  match m, hm with
  | 0, _ => show _ = _; kernel_rfl
  | 1, _ => show _ = _; kernel_rfl
  | 2, _ => show _ = _; kernel_rfl
attribute [local irreducible] rowC cellsC rowI callE zeroB longB
set_option maxRecDepth 100000 in
set_option maxHeartbeats 2000000 in
theorem vcheck10 (z : Int) (a : Nat → Int) (P : Option Addr) (cp : Nat) (A : Option Addr) (ca : Nat) (ps gs : List ByteArray) (w : World) (B : Nat) (hB : B ≤ w.heap.size) (hP : StrsAt w B P ps) (hA : StrsAt w B A gs) (hlp : ps.length ≤ 1000) (hlg : gs.length ≤ 1000) (hsp : ∀ s ∈ ps, s.size ≤ maxLen) (hsg : ∀ s ∈ gs, s.size ≤ maxLen) (hc : Calls10 w) :
    Calls Tryz.prog 17 #[callV z a P ps.length cp A gs.length ca] w fun e w' => e = .returned (.int .i64 (callE z a ps gs)) ∧ Below w.heap.size w w' := by
  have HP := Lib.hid hP
  have HA := Lib.hid hA
  have HSP := Lib.hid hsp
  have HSG := Lib.hid hsg
  have HC := Lib.hid hc
  clear hP hA hsp hsg hc
  by_cases hz : z < 0 ∨ 22 ≤ z
  · have HE := Lib.hid (show callE z a ps gs = 100 by rw [callE_row (rowI_name_out hz)]; rfl)
    have HX := Lib.hid (show existsB z = false by unfold existsB; simp; omega)
    clear hz
    go_enter Tryz.func17, Tryz.ntmps17
    go_wp2_with fail
    refine (vexists _ _).mono ?_
    rintro e w' ⟨rfl, rfl⟩
    rw [HX.out]
    go_wp2_with fail
    go_ret
    exact ⟨by rw [HE.out]; rfl, (Below.refl _ _).alloc (Nat.le_refl _) _⟩
  · have HX := Lib.hid (show existsB z = true by unfold existsB; simp; omega)
    have hsm := rowC_small z.toNat
    have HV := Lib.hid (vshapeI z)
    have hrz : rowI z = rowC z.toNat := by
      obtain ⟨n, rfl⟩ := Int.eq_ofNat_of_zero_le (show 0 ≤ z by omega)
      rw [rowI_nat]; rfl
    rw [← hrz] at hsm
    have hnm : (rowI z).name.size ≠ 0 := by
      rw [hrz]; exact rowC_name (by omega)
    clear hz hrz
    generalize hr : rowI z = r at *
    have HR := Lib.hid (callE_row (a := a) (ps := ps) (gs := gs) hr)
    clear hr
    obtain ⟨nm, m, p, l, u⟩ := r
    obtain ⟨s1, s2, s3, s4, _⟩ := hsm
    go_enter Tryz.func17, Tryz.ntmps17
    go_wp2_with fail
    refine (vexists _ _).mono ?_
    rintro e w' ⟨rfl, rfl⟩
    rw [HX.out]
    go_wp2_with fail
    refine (HV.out _ (HC.out.below ((Below.refl _ _).alloc (Nat.le_refl _) _) (Nat.le_refl _))).mono ?_
    rintro e w1 ⟨rfl, hb⟩
    have HG := (Blk.new w _ _).keep (boxed hb) (by omega)
    have HB := Lib.hid (unbox' hb)
    have q5 := HG.cell 5
    have q6 := HG.cell 6
    have HQ := Lib.hid (fun k hk => a_cell HG k hk)
    have hsl := slice_from w.heap.size m s1
    clear hb HG
    go_wp2_with fail
    go_loop [8, 25] (fun _ i => ∃ k : Nat, k ≤ 4 - m ∧ i = .int .i64 k ∧ Hid (∀ j, m ≤ j → j < m + k → a j = 0)) (fun _ i => 4 - (intOf i).toNat)
    case atStart => exact ⟨0, Nat.zero_le _, rfl, fun j h1 h2 => by omega⟩
    case round =>
      obtain ⟨k, hk, rfl, hno⟩ := hrel
      by_cases hlt : k < 4 - m
      · have hcell := HQ.out (m + k) (by omega)
        rw [show 1 + (m + k) = 1 + m + k by omega] at hcell
        by_cases ha : a (m + k) = 0
        · have HN := Lib.hid (show ∀ j, m ≤ j → j < m + (k + 1) → a j = 0 from fun j h1 h2 => by
            by_cases e : j = m + k
            · rw [e]; exact ha
            · exact hno.out j h1 (by omega))
          rw [ha] at hcell
          clear ha
          go_wp2_with fail
          go_round
          case rel => exact ⟨k + 1, by omega, by go_num, HN.out⟩
          case measure => simp [intOf]; omega
        · have HZ := Lib.hid (zeroB_no (m := m) (a := a) (j := m + k) (by omega) (by omega) ha)
          have hab : (a (m + k) != 0) = true := by simpa using ha
          clear ha
          generalize a (m + k) = v at *
          go_wp2_with fail
          go_ret
          exact ⟨by rw [HR.out, if_neg hnm, if_pos HZ.out]; rfl, HB.out⟩
      · have HZ := Lib.hid (zeroB_yes (m := m) (a := a) fun j h1 h2 => hno.out j h1 (by omega))
        have HP1 := Lib.hid (HP.out.keep HB.out hB)
        have HA1 := Lib.hid (HA.out.keep HB.out hB)
        go_wp2_with fail
        all_goals try (go_ret; exact ⟨by rw [HR.out, if_neg hnm, if_neg (by rw [HZ.out]; simp), if_pos (by omega)]; rfl, HB.out⟩)
        have HK := Lib.hid (show ¬ (ps.length ≠ p ∨ gs.length < l ∨ u < gs.length) by omega)
        have HL := Lib.hid (vlong w1 B P ps cp 128 HP1.out (by unfold maxLen; omega) HSP.out)
        have HM := Lib.hid (vlong w1 B A gs ca 64 HA1.out (by unfold maxLen; omega) HSG.out)
        have hcs : longB ps 128 = true ∨ (longB ps 128 = false ∧ longB gs 64 = true) ∨ (longB ps 128 = false ∧ longB gs 64 = false) := by
          cases longB ps 128 <;> cases longB gs 64 <;> simp
        refine HL.out.mono ?_
        rintro e w2 ⟨rfl, rfl⟩
        rcases hcs with h1 | ⟨h1, h2⟩ | ⟨h1, h2⟩
        · have HF := Lib.hid (show callE z a ps gs = 102 by rw [HR.out, if_neg hnm, if_neg (by rw [HZ.out]; simp), if_neg HK.out, if_pos (.inl h1)])
          rw [h1]
          clear h1
          go_wp2_with fail
          go_ret
          exact ⟨by rw [HF.out]; rfl, HB.out⟩
        · have HF := Lib.hid (show callE z a ps gs = 102 by rw [HR.out, if_neg hnm, if_neg (by rw [HZ.out]; simp), if_neg HK.out, if_pos (.inr h2)])
          have H2 := Lib.hid h2
          rw [h1]
          clear h1 h2
          go_wp2_with fail
          refine HM.out.mono ?_
          rintro e w2 ⟨rfl, rfl⟩
          rw [H2.out]
          go_wp2_with fail
          go_ret
          exact ⟨by rw [HF.out]; rfl, HB.out⟩
        · have HF := Lib.hid (show callE z a ps gs = 0 by rw [HR.out, if_neg hnm, if_neg (by rw [HZ.out]; simp), if_neg HK.out, if_neg (by rw [h1, h2]; simp)])
          have H2 := Lib.hid h2
          rw [h1]
          clear h1 h2
          go_wp2_with fail
          refine HM.out.mono ?_
          rintro e w2 ⟨rfl, rfl⟩
          rw [H2.out]
          go_wp2_with fail
          go_ret
          exact ⟨by rw [HF.out]; rfl, HB.out⟩
end Go.Proofs.YtokkbboahajbhaaGreatDoor

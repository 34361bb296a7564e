/- Format of package call returns callS (written by gen_callfmt.py). -/
import Derived.Test.YtokkbboahajbhaaGreatDoorCallRChk
import Derived.Test.YtokkbboahajbhaaGreatDoorWords
import Derived.Test.YtokkbboahajbhaaGreatDoorQuote
import Derived.Test.YtokkbboahajbhaaGreatDoorNumber
import Derived.Test.YtokkbboahajbhaaGreatDoorCallFPlain
namespace Go.Proofs.YtokkbboahajbhaaGreatDoor
open Go.RowKit
attribute [local irreducible] rowC cellsC rowI callE zeroB longB callS quoteS numS catW
set_option maxRecDepth 100000 in
set_option maxHeartbeats 4000000 in
theorem vformat10_bad (z : Int) (a : Nat → Int) (P : Option Addr) (cp : Nat) (A : Option Addr) (ca : Nat) (ps gs : List ByteArray) (w : World) (B : Nat) (hB : B ≤ w.heap.size) (hP : StrsAt w B P ps) (hA : StrsAt w B A gs) (hlp : ps.length ≤ 1000) (hlg : gs.length ≤ 1000) (hsp : ∀ s ∈ ps, s.size ≤ maxLen) (hsg : ∀ s ∈ gs, s.size ≤ maxLen) (hc : Calls10 w) (he : callE z a ps gs ≠ 0) :
    Calls Tryz.prog 16 #[callV z a P ps.length cp A gs.length ca] w fun e w' => e = .returned (.tuple #[.string (callS z a ps gs), .int .i64 (callE z a ps gs)]) ∧ Below w.heap.size w w' := by
  have HF := Lib.hid (show callS z a ps gs = ⟨#[]⟩ by unfold callS; rw [if_neg he])
  have hb0 : (callE z a ps gs != 0) = true := by simpa using he
  have hal : Below w.heap.size w (w.alloc (callO z a P ps.length cp A gs.length ca)) := (Below.refl _ _).alloc (Nat.le_refl _) _
  have HV := Lib.hid (vcheck10 z a P cp A ca ps gs (w.alloc (callO z a P ps.length cp A gs.length ca)) B (by simp; omega) (hP.keep hal hB) (hA.keep hal hB) hlp hlg hsp hsg (hc.below hal (Nat.le_refl _)))
  clear he hP hA hsp hsg hc hal
  go_enter Tryz.func16, Tryz.ntmps16
  go_wp2_with fail
  refine HV.out.mono ?_
  rintro e w1 ⟨rfl, hb⟩
  go_wp2_with fail
  go_ret2
  exact ⟨tup HF.out.symm rfl, unbox' hb⟩
set_option maxRecDepth 100000 in
set_option maxHeartbeats 8000000 in
theorem vformat10_ok (z : Int) (a : Nat → Int) (P : Option Addr) (cp : Nat) (A : Option Addr) (ca : Nat) (ps gs : List ByteArray) (w : World) (B : Nat) (hB : B ≤ w.heap.size) (hP : StrsAt w B P ps) (hA : StrsAt w B A gs) (ha : ∀ j, j < 4 → -9223372036854775808 ≤ a j ∧ a j ≤ 9223372036854775807) (hc : Calls10 w) (hT : Tab w) (hW : Pow w) (he : callE z a ps gs = 0) :
    Calls Tryz.prog 16 #[callV z a P ps.length cp A gs.length ca] w fun e w' => e = .returned (.tuple #[.string (callS z a ps gs), .int .i64 (callE z a ps gs)]) ∧ Below w.heap.size w w' := by
  obtain ⟨j0, hj, hz0, hz1, hz2⟩ := info_parts Tryz.infoS
  obtain ⟨c1, c2, c3, c4, c5, c6⟩ := callE_zero he
  have hsm := rowC_small z.toNat
  rw [← rowI_toNat c1] at hsm
  have HF := Lib.hid (show callS z a ps gs = catW (rowI z).name (numsW (rowI z).nums a ++ (ps ++ gs).map quoteS) by unfold callS; rw [if_pos he])
  have hal : Below w.heap.size w (w.alloc (callO z a P ps.length cp A gs.length ca)) := (Below.refl _ _).alloc (Nat.le_refl _) _
  have HV := Lib.hid (vcheck10 z a P cp A ca ps gs (w.alloc (callO z a P ps.length cp A gs.length ca)) B (by simp; omega) (hP.keep hal hB) (hA.keep hal hB) (by omega) (by omega) (fun s hs => by have := c5 s hs; unfold maxLen; omega) (fun s hs => by have := c6 s hs; unfold maxLen; omega) (hc.below hal (Nat.le_refl _)))
  rw [he] at HV
  have HS := Lib.hid (vshapeI z)
  have HNM := Lib.hid (vnameI z)
  have HE0 := Lib.hid he
  have HP := Lib.hid hP
  have HA := Lib.hid hA
  have HI := Lib.hid ha
  have HC := Lib.hid hc
  have HT := Lib.hid hT
  have HW := Lib.hid hW
  have HS5 := Lib.hid c5
  have HS6 := Lib.hid c6
  clear he hP hA ha hc hT hW c1 c2 c5 c6 hal
  generalize rowI z = r at *
  obtain ⟨nm, m, p, l, u⟩ := r
  obtain ⟨s1, s2, s3, s4, s5⟩ := hsm
  simp only at c3 c4 s1 s2 s3 s4 s5
  have hlp : ps.length ≤ 2 := by omega
  have hlg : gs.length ≤ 4 := by omega
  clear c3 c4
  have hsl := slice_to w.heap.size m s1
  go_enter Tryz.func16, Tryz.ntmps16
  go_wp2_with fail
  refine HV.out.mono ?_
  rintro e w1 ⟨rfl, hb1⟩
  have HB1 := boxed hb1
  have g1 := (Blk.new w _ _).keep HB1 (by omega)
  have q0 := g1.cell 0
  have hsz1 := HB1.size
  simp at hsz1
  clear hb1 g1
  go_wp2_with fail
  refine (HS.out _ (HC.out.below (unbox HB1) (Nat.le_refl _))).mono ?_
  rintro e w2 ⟨rfl, hb2⟩
  have HB2 := box_then HB1 hb2
  clear q0 hb2 HB1
  have g2 := (Blk.new w _ _).keep HB2 (by omega)
  have q0 := g2.cell 0
  have hsz2 := HB2.size
  simp at hsz2
  clear g2
  go_wp2_with fail
  refine (HNM.out _ (HC.out.below (unbox HB2) (Nat.le_refl _))).mono ?_
  rintro e w3 ⟨rfl, rfl⟩
  go_wp2_with fail
  have hb := HB2.alloc (by omega) (.cells #[.string nm] 9)
  have hown := OwnS.one w2 (base := w.heap.size + 1) (by omega) nm
  clear HB2 q0 HS HNM HV
  generalize hwx : w2.alloc (.cells #[.string nm] 9) = wx at *
  have hsx : wx.heap.size = w2.heap.size + 1 := by rw [← hwx]; simp
  clear hwx
  go_loopw [9, 39] (fun v i wr => ∃ k : Nat, k ≤ m ∧ i = .int .i64 k ∧ OwnS wr (w.heap.size + 1) v (nm :: numsW k a) ∧ Below (w.heap.size + 1) (w.alloc (callO z a P ps.length cp A gs.length ca)) wr) (fun _ i _ => m - (intOf i).toNat)
  case atStart => exact ⟨0, Nat.zero_le _, rfl, hown, hb⟩
  case round =>
    clear hown hb
    obtain ⟨k, hk, rfl, hown, hb⟩ := hrel
    have hsz := hb.size
    simp at hsz
    have g2 := (Blk.new w _ _).keep hb (by omega)
    by_cases hlt : k < m
    · have hcell := a_cell g2 k (by omega)
      have HW1 := Lib.hid (HW.out.below (unbox hb) (Nat.le_refl _))
      have hr := HI.out k (by omega)
      have HO := Lib.hid hown
      have HN := Lib.hid (show (nm :: numsW k a).length ≤ 100 by simp [numsW_len]; omega)
      have HK := Lib.hid (numsW_succ k a)
      clear g2 hown
      generalize a k = x at *
      go_wp2_with fail
      refine (vitoa x hr.1 hr.2 _ HW1.out).mono ?_
      rintro e w4 ⟨rfl, hb4⟩
      have hown := HO.out.below hb4
      have hb5 := box_then hb hb4
      have hsz5 := hb5.size
      simp at hsz5
      clear HO hb hb4 hcell hr
      go_wp2_with (at_builtin; refine wpList_append_own _ rfl _ _ 26 rfl (w.heap.size + 1) 9 j0 _ 1 16 Tryz.underlying26 hj hz0 hz1 hz2 rfl (by omega) _ _ _ rfl ((hown.alloc _).out) ⟨w4.heap.size, 0, none⟩ 1 1 [.string (numS x)] rfl rfl (cell_one_new _ _ _) (by simp [Value.oneCell']) (by have := HN.out; unfold maxLen; omega) (by have := HN.out; omega) (by simp; omega) ?_; intro v2 w5 hown2 hg2 _)
      have hb6 := below_grown_own (hb5.alloc (by omega) _) hown.out (Nat.le_refl _) hg2 (by simp; omega)
      have hown3 := OwnS.snoc hown2 (by simp) rfl
      clear hg2 hown2 hown hb5
      go_roundw
      case rel => exact ⟨k + 1, by omega, by go_num, by rw [HK.out]; simpa using hown3, hb6⟩
      case measure => simp [intOf]; omega
    · obtain rfl : m = k := by omega
      have q5 := g2.cell 5
      have q6 := g2.cell 6
      clear g2
      have HNL := Lib.hid (numsW_len m a)
      have i0 : ∀ w, (Instr.index 57 (.agg #[.slice P ps.length cp, .slice A gs.length ca]) (.int .i64 0)).run Tryz.prog w = .ok (.slice P ps.length cp) w := fun _ => by kernel_rfl
      have i1 : ∀ w, (Instr.index 57 (.agg #[.slice P ps.length cp, .slice A gs.length ca]) (.int .i64 1)).run Tryz.prog w = .ok (.slice A gs.length ca) w := fun _ => by kernel_rfl
      go_wp2_with fail
      clear q5 q6
      obtain ⟨wl, rfl⟩ : ∃ wl : World, wl = wr := ⟨_, rfl⟩
      go_loopw [9, 54] (fun v i wr => ∃ k2 : Nat, k2 ≤ 2 ∧ i = .int .i64 k2 ∧ OwnS wr (w.heap.size + 1) v (nm :: (numsW m a ++ (if k2 = 0 then [] else if k2 = 1 then ps else ps ++ gs).map quoteS)) ∧ Below (w.heap.size + 1) (w.alloc (callO z a P ps.length cp A gs.length ca)) wr) (fun _ i _ => 2 - (intOf i).toNat)
      case atStart => exact ⟨0, by omega, rfl, by simpa using hown, hb⟩
      case round =>
        clear hown hb
        obtain ⟨k2, hk2, rfl, hown, hb⟩ := hrel
        have hsz := hb.size
        simp at hsz
        have hcs : k2 = 0 ∨ k2 = 1 ∨ k2 = 2 := by omega
        rcases hcs with rfl | rfl | rfl
        · simp only [if_true, List.map_nil, List.append_nil] at hown
          go_wp2_with fail
          obtain ⟨wo, rfl⟩ : ∃ wo : World, wo = wr := ⟨_, rfl⟩
          have HP1 := Lib.hid (HP.out.keep (unbox hb) hB)
          go_loopw [9, 59] (fun v i wr => ∃ k : Nat, k ≤ ps.length ∧ i = .int .i64 k ∧ OwnS wr (w.heap.size + 1) v (nm :: (numsW m a ++ (ps.take k).map quoteS)) ∧ Below (w.heap.size + 1) (w.alloc (callO z a P ps.length cp A gs.length ca)) wr) (fun _ i _ => ps.length - (intOf i).toNat)
          case atStart => exact ⟨0, Nat.zero_le _, rfl, by simpa using hown, hb⟩
          case round =>
            clear hown hb
            obtain ⟨k, hk, rfl, hown, hb⟩ := hrel
            have hsz := hb.size
            simp at hsz
            by_cases hlt : k < ps.length
            · obtain ⟨ad, e, hadb, hc⟩ := (HP.out.keep (unbox hb) hB) k hlt
              cases e
              have hz := HS5.out _ (List.getElem_mem hlt)
              have HT1 := Lib.hid (HT.out.below (unbox hb) (Nat.le_refl _))
              have HK := Lib.hid (take_map_snoc ps k hlt)
              have HN := Lib.hid (show (nm :: (numsW m a ++ (ps.take k).map quoteS)).length ≤ 100 by have := HNL.out; simp [this]; omega)
              have HE := Lib.hid (quoteE_none (show ps[k].size ≤ 640 by omega))
              have HO := Lib.hid hown
              clear hown
              generalize ps[k] = s at *
              go_wp2_with fail
              refine (vquote _ _ (by unfold maxLen; omega) HT1.out).mono ?_
              rintro e w1 ⟨rfl, hb1⟩
              rw [HE.out]
              have hown := HO.out.below hb1
              have hb2 := box_then hb hb1
              have hsz2 := hb2.size
              simp at hsz2
              clear HO hb hb1 hc
              go_wp2_with (at_builtin; refine wpList_append_own _ rfl _ _ 26 rfl (w.heap.size + 1) 9 j0 _ 1 16 Tryz.underlying26 hj hz0 hz1 hz2 rfl (by omega) _ _ _ rfl ((hown.alloc _).out) ⟨w1.heap.size, 0, none⟩ 1 1 [.string (quoteS s)] rfl rfl (cell_one_new _ _ _) (by simp [Value.oneCell']) (by have := HN.out; unfold maxLen; omega) (by have := HN.out; omega) (by simp; omega) ?_; intro v2 w2 hown2 hg2 _)
              have hb3 := below_grown_own (hb2.alloc (by omega) _) hown.out (Nat.le_refl _) hg2 (by simp; omega)
              have hown3 := OwnS.snoc hown2 (by simp) rfl
              clear hg2 hown2 hown hb2
              go_roundw
              case rel =>
                (repeat apply Exists.intro)
                refine ⟨?_, rfl⟩
                exact ⟨k + 1, by omega, by go_num, by rw [HK.out]; simpa using hown3, hb3⟩
              case measure => simp [intOf]; omega
            · obtain rfl : k = ps.length := by omega
              rw [List.take_length] at hown

              go_wp2_with fail
              go_roundw
              case rel => exact ⟨1, by omega, by go_num, by simpa using hown, hb⟩
              case measure => simp [intOf]
        · simp only [Nat.one_ne_zero, if_false, if_true] at hown
          go_wp2_with fail
          obtain ⟨wo, rfl⟩ : ∃ wo : World, wo = wr := ⟨_, rfl⟩
          have HA1 := Lib.hid (HA.out.keep (unbox hb) hB)
          go_loopw [9, 59] (fun v i wr => ∃ k : Nat, k ≤ gs.length ∧ i = .int .i64 k ∧ OwnS wr (w.heap.size + 1) v (nm :: (numsW m a ++ ps.map quoteS ++ (gs.take k).map quoteS)) ∧ Below (w.heap.size + 1) (w.alloc (callO z a P ps.length cp A gs.length ca)) wr) (fun _ i _ => gs.length - (intOf i).toNat)
          case atStart => exact ⟨0, Nat.zero_le _, rfl, by simpa using hown, hb⟩
          case round =>
            clear hown hb
            obtain ⟨k, hk, rfl, hown, hb⟩ := hrel
            have hsz := hb.size
            simp at hsz
            by_cases hlt : k < gs.length
            · obtain ⟨ad, e, hadb, hc⟩ := (HA.out.keep (unbox hb) hB) k hlt
              cases e
              have hz := HS6.out _ (List.getElem_mem hlt)
              have HT1 := Lib.hid (HT.out.below (unbox hb) (Nat.le_refl _))
              have HK := Lib.hid (take_map_snoc gs k hlt)
              have HN := Lib.hid (show (nm :: (numsW m a ++ ps.map quoteS ++ (gs.take k).map quoteS)).length ≤ 100 by have := HNL.out; simp [this]; omega)
              have HE := Lib.hid (quoteE_none (show gs[k].size ≤ 640 by omega))
              have HO := Lib.hid hown
              clear hown
              generalize gs[k] = s at *
              go_wp2_with fail
              refine (vquote _ _ (by unfold maxLen; omega) HT1.out).mono ?_
              rintro e w1 ⟨rfl, hb1⟩
              rw [HE.out]
              have hown := HO.out.below hb1
              have hb2 := box_then hb hb1
              have hsz2 := hb2.size
              simp at hsz2
              clear HO hb hb1 hc
              go_wp2_with (at_builtin; refine wpList_append_own _ rfl _ _ 26 rfl (w.heap.size + 1) 9 j0 _ 1 16 Tryz.underlying26 hj hz0 hz1 hz2 rfl (by omega) _ _ _ rfl ((hown.alloc _).out) ⟨w1.heap.size, 0, none⟩ 1 1 [.string (quoteS s)] rfl rfl (cell_one_new _ _ _) (by simp [Value.oneCell']) (by have := HN.out; unfold maxLen; omega) (by have := HN.out; omega) (by simp; omega) ?_; intro v2 w2 hown2 hg2 _)
              have hb3 := below_grown_own (hb2.alloc (by omega) _) hown.out (Nat.le_refl _) hg2 (by simp; omega)
              have hown3 := OwnS.snoc hown2 (by simp) rfl
              clear hg2 hown2 hown hb2
              go_roundw
              case rel =>
                (repeat apply Exists.intro)
                refine ⟨?_, rfl⟩
                exact ⟨k + 1, by omega, by go_num, by rw [HK.out]; simpa using hown3, hb3⟩
              case measure => simp [intOf]; omega
            · obtain rfl : k = gs.length := by omega
              rw [List.take_length] at hown

              go_wp2_with fail
              go_roundw
              case rel => exact ⟨2, by omega, by go_num, by simpa using hown, hb⟩
              case measure => simp [intOf]
        · simp only [show ¬ (2 = 0) by decide, show ¬ (2 = 1) by decide, if_false] at hown
          obtain ⟨g, cap, hv⟩ := Joins.ownsRow_form hown.out (by simp)
          subst hv
          generalize hn : (nm :: (numsW m a ++ (ps ++ gs).map quoteS)).length = n at *
          have HJ := Lib.hid (vjoinN wr _ g cap n nm _ hn hown (by have := HNL.out; simp [this]; omega) (by omega) (fun s hs => by
            rcases List.mem_append.1 hs with h | h
            · have := numsW_size (fun j hj => HI.out j (by omega)) s h; omega
            · obtain ⟨y, hy, rfl⟩ := List.mem_map.1 h
              have : y.size ≤ 128 := by
                rcases List.mem_append.1 hy with h | h
                · exact HS5.out y h
                · have := HS6.out y h; omega
              have := quoteS_le y (by omega); omega))
          clear hown hn
          go_wp2_with fail
          refine HJ.out.mono ?_
          rintro e w7 ⟨rfl, hb7⟩
          go_wp2_with fail
          go_ret2
          exact ⟨tup (by rw [HF.out, List.map_append]) HE0.out.symm, below_then (unbox hb) hb7⟩
theorem vformat10 (z : Int) (a : Nat → Int) (P : Option Addr) (cp : Nat) (A : Option Addr) (ca : Nat) (ps gs : List ByteArray) (w : World) (B : Nat) (hB : B ≤ w.heap.size) (hP : StrsAt w B P ps) (hA : StrsAt w B A gs) (hlp : ps.length ≤ 1000) (hlg : gs.length ≤ 1000) (hsp : ∀ s ∈ ps, s.size ≤ maxLen) (hsg : ∀ s ∈ gs, s.size ≤ maxLen) (ha : ∀ j, j < 4 → -9223372036854775808 ≤ a j ∧ a j ≤ 9223372036854775807) (hc : Calls10 w) (hT : Tab w) (hW : Pow w) :
    Calls Tryz.prog 16 #[callV z a P ps.length cp A gs.length ca] w fun e w' => e = .returned (.tuple #[.string (callS z a ps gs), .int .i64 (callE z a ps gs)]) ∧ Below w.heap.size w w' := by
  by_cases he : callE z a ps gs = 0
  · exact vformat10_ok z a P cp A ca ps gs w B hB hP hA ha hc hT hW he
  · exact vformat10_bad z a P cp A ca ps gs w B hB hP hA hlp hlg hsp hsg hc he
end Go.Proofs.YtokkbboahajbhaaGreatDoor

/- Texts of one proof, laid together. -/
import Derived.Test.YtpldopoeopjcoaaGreatDoorK17
/- format of package expression: or. -/
namespace Go.Proofs.YtpldopoeopjcoaaGreatDoor
open Go.RowKit
attribute [local irreducible] sgN numS quoteS joinS
set_option maxRecDepth 100000 in
set_option maxHeartbeats 16000000 in
theorem vfmt2 (N : Nat) (R : FRec N) (cm kd nu : Int) (nm tx : ByteArray) (ls : List Ex) (A : Option Addr) (c : Nat) (ms : List Xe) (w : World) (hN : SizeOf.sizeOf (Ex.mk 2 cm kd nu nm tx ls) ≤ N + 1) (hsl : soundL ls = true) (hhd : headX 2 cm kd nu nm tx ls.length = true)
    (hni : ∀ y ∈ ls, NumX y) (hlx : (fmtT (.mk 2 cm kd nu nm tx ls)).size ≤ 1000000) (hl : ms.length = ls.length) (hn : ls.length ≤ 1000000) (hat : AtE EX w w.heap.size A ms) (ih : ∀ k (h1 : k < ls.length) (h2 : k < ms.length), ExV w w.heap.size (ls[k]) (ms[k])) (hE : Env w) :
    Calls Tryz.prog 22 #[.agg (xC ⟨2, cm, kd, nu, nm, tx, A, ls.length, c⟩)] w fun e w' => e = .returned (.string (fmtT (.mk 2 cm kd nu nm tx ls))) ∧ Below w.heap.size w w' := by
  have HE := Lib.hid (fmtT_eq 2 cm kd nu nm tx ls)
  have HREC := Lib.hid R
  have HX := Lib.hid (show ∀ W : World, Below w.heap.size w W → ∀ k (h1 : k < ls.length) (h2 : k < ms.length), ExV W W.heap.size (ls[k]) (ms[k]) from fun W hW k h1 h2 => ((ih k h1 h2).keep (fun i hi => hW.block i hi)).more hW.size)
  have HAT := Lib.hid (show ∀ W : World, Below w.heap.size w W → AtE EX W w.heap.size A ms from fun W hW => hat.keep hW (Nat.le_refl _))
  have HSZ := Lib.hid (show ∀ k (h1 : k < ls.length), SizeOf.sizeOf ls[k] ≤ N from fun k h1 => by have := size_at (op := 2) (cm := cm) (kd := kd) (nu := nu) (nm := nm) (tx := tx) h1; omega)
  have HSD := Lib.hid (show ∀ k (h1 : k < ls.length), soundX ls[k] = true from fun k h1 => soundL_all hsl k h1)
  have HNX := Lib.hid (show ∀ k (h1 : k < ls.length), NumX ls[k] from fun k h1 => hni _ (List.getElem_mem h1))
  have HLX := Lib.hid (show ∀ k (h1 : k < ls.length), (fmtT ls[k]).size ≤ 1000000 from fun k h2 => Nat.le_trans (kid_le (List.getElem_mem h2) (fun h => absurd h (by decide)) (by decide) (by decide)) hlx)
  have HMS := Lib.hid hl
  have HNN := Lib.hid hn
  have HEV := Lib.hid (fun (W : World) (h : Below w.heap.size w W) => hE.below h)
  have XB := Lib.hid (Blk.new w (xC ⟨2, cm, kd, nu, nm, tx, A, ls.length, c⟩) 25)
  have HB := Lib.hid ((Below.refl w.heap.size w).alloc (Nat.le_refl _) (.cells (xC ⟨2, cm, kd, nu, nm, tx, A, ls.length, c⟩) 25))
  have HW1 := Lib.hid (show (w.alloc (.cells (xC ⟨2, cm, kd, nu, nm, tx, A, ls.length, c⟩) 25)).heap.size = w.heap.size + 1 by simp)
  have HLN := Lib.hid (show 1 ≤ ls.length from Nat.le_trans (by omega) (head_two hhd (.inr rfl)))
  have HV := Lib.hid (show fmtT (.mk 2 cm kd nu nm tx ls) = joinS ⟨#[32, 111, 114, 32]⟩ (ls.map (kidT 2)) by rw [HE.out]; rfl)
  have HJZ := Lib.hid (show (joinS ⟨#[32, 111, 114, 32]⟩ (ls.map (kidT 2))).size ≤ 1000000 by rw [← HV.out]; exact hlx)
  clear R hat ih hl hN hsl hhd hE hni HE hlx
  have q0 := (xb_cells XB.out).1
  have q6 := (xb_cells XB.out).2.2.2.2.2.2
  go_enter Tryz.func22, Tryz.ntmps22
  go_wp2_with fail
  clear q0 q6
  go_loopw [6, 45] (fun v i wr => ∃ k : Nat, k ≤ ls.length ∧ i = .int .i64 (k : Int) ∧ Blk wr w.heap.size 25 (xC ⟨2, cm, kd, nu, nm, tx, A, ls.length, c⟩) ∧ OwnE ES wr (w.heap.size + 1) v ((ls.take k).map (kidT 2)) ∧ Below w.heap.size w wr) (fun _ i _ => ls.length - (intOf i).toNat)
  case atStart => exact ⟨0, Nat.zero_le _, rfl, XB.out, OwnE.nil _ _, HB.out⟩
  case round =>
    obtain ⟨k, hk, rfl, hxb, hown, hbw⟩ := hrel
    generalize u6 = v at *
    have HBW := Lib.hid hbw
    have HXB := Lib.hid hxb
    have HO := Lib.hid hown
    clear hxb hown XB
    by_cases hlt : k < ls.length
    · have hlt1 : (k : Int) < (ls.length : Int) := by omega
      have hkm : k < ms.length := by rw [HMS.out]; exact hlt
      obtain ⟨ad, rfl, hab, hcx⟩ := HAT.out wr hbw k hkm
      obtain ⟨s0, s1, s2, s3, s4, s5, s6⟩ := x_cells (a := ad.add (k * 7)) hcx
      have HXK := Lib.hid (fun (W : World) (h : Below w.heap.size w W) => HX.out W h k hlt hkm)
      have HZ := Lib.hid (HSZ.out k hlt)
      have HSK := Lib.hid (HSD.out k hlt)
      have HNK := Lib.hid (HNX.out k hlt)
      have HLK := Lib.hid (HLX.out k hlt)
      have HD := Lib.hid (map_take (kidT 2) ls k hlt)
      clear hcx hbw
      generalize ls[k] = y at *
      generalize ms[k] = my at *
      have X3 := Lib.hid (Blk.new wr (xC my) 25)
      have HB3 := Lib.hid (HBW.out.alloc HBW.out.size (.cells (xC my) 25))
      have HMO := Lib.hid ((HXK.out _ HBW.out).op)
      go_wp2_with ((with_reducible refine load_blk ?_ 25 (.tmp 8) ?_ X3.out ?_ _ Tryz.underlying25 ?_ ?_ ?_); (iterate 4 rfl); exact x_sz _)
      refine (HREC.out y HZ.out HSK.out HNK.out HLK.out my _ (HXK.out _ HB3.out) (HEV.out _ HB3.out)).mono ?_
      rintro e w5 ⟨rfl, hb5⟩
      have HB5 := Lib.hid (below_then HB3.out hb5)
      have XB5 := Lib.hid ((HXB.out.alloc (.cells (xC my) 25)).below hb5)
      have X5 := Lib.hid (X3.out.below hb5)
      have O5 := Lib.hid ((HO.out.alloc (.cells (xC my) 25)).below hb5)
      clear s0 s1 s2 s3 s4 s5 s6 hb5 X3 HB3 HXB HO
      have p0 := (xb_cells XB5.out).1
      have y0 := (xb_cells X5.out).1
      generalize hF : fmtT y = F at *
      have HKT := Lib.hid (show kidT 2 y = wrapS 2 y F by unfold kidT; rw [hF])
      have zF : F.size ≤ 1000000 := HLK.out
      have zG : (⟨#[40]⟩ ++ F : ByteArray).size ≤ 1000001 := by rw [ByteArray.size_append]; have : (⟨#[40]⟩ : ByteArray).size = 1 := rfl; omega
      clear hF HLK
      cases d2 : (my.op == 2)
      case true =>
        have HK := Lib.hid (show kidT 2 y = ((⟨#[40]⟩ ++ F) ++ ⟨#[41]⟩) by rw [HKT.out]; exact wrap_yes (by unfold wrapB; rw [← HMO.out, d2]; rfl))
        have K6 := Lib.hid (O5.out.alloc (.cells #[.string ((⟨#[40]⟩ ++ F) ++ ⟨#[41]⟩)] 9))
        have B6 := Lib.hid (HB5.out.alloc HB5.out.size (.cells #[.string ((⟨#[40]⟩ ++ F) ++ ⟨#[41]⟩)] 9))
        have XB6 := Lib.hid (XB5.out.alloc (.cells #[.string ((⟨#[40]⟩ ++ F) ++ ⟨#[41]⟩)] 9))
        have RW := Lib.hid (row_newE ES w5 #[.string ((⟨#[40]⟩ ++ F) ++ ⟨#[41]⟩)] 9 ((⟨#[40]⟩ ++ F) ++ ⟨#[41]⟩) rfl (Nat.lt_succ_self w5.heap.size))
        have HTL := Lib.hid (show ((ls.take k).map (kidT 2)).length + 1 ≤ 1000000 by rw [List.length_map, List.length_take]; have := HNN.out; omega)
        have hbase : w.heap.size + 1 ≤ (w5.alloc (.cells #[.string ((⟨#[40]⟩ ++ F) ++ ⟨#[41]⟩)] 9)).heap.size := by have := XB6.out.lt; exact this
        clear O5 HB5 XB5 X5
        go_wp2_with (refine wpList_append_el ES rfl (.tmp 67) (.tmp 69) rfl (w.heap.size + 1) v _ rfl K6.out (w5.heap.size + 1) (some ⟨w5.heap.size, 0, none⟩) 1 1 [((⟨#[40]⟩ ++ F) ++ ⟨#[41]⟩)] rfl rfl RW.out HTL.out hbase ?_; intro v6 w6 ho6 hg6 hat6)
        have O6 := Lib.hid (show OwnE ES w6 (w.heap.size + 1) v6 ((ls.take (k + 1)).map (kidT 2)) by rw [HD.out, HK.out]; exact ho6)
        have B7 := Lib.hid (B6.out.grown hg6 B6.out.size (fun k e => by have := K6.out.ge k e; omega))
        have XB7 := Lib.hid (Blk.grown XB6.out hg6 (fun e => by have := K6.out.ge _ e; omega))
        clear ho6 hg6 hat6 K6 B6 XB6 RW p0 y0
        go_wp2_with fail
        go_roundw
        case rel => exact ⟨k + 1, by omega, by go_num, XB7.out, O6.out, B7.out⟩
        case measure => simp [intOf]; omega
      case false =>
        cases d1 : (my.op == 1)
        all_goals
          have HK := Lib.hid (show kidT 2 y = F by rw [HKT.out]; exact wrap_no (by unfold wrapB; rw [← HMO.out, d2]; simp))
          have K6 := Lib.hid (O5.out.alloc (.cells #[.string F] 9))
          have B6 := Lib.hid (HB5.out.alloc HB5.out.size (.cells #[.string F] 9))
          have XB6 := Lib.hid (XB5.out.alloc (.cells #[.string F] 9))
          have RW := Lib.hid (row_newE ES w5 #[.string F] 9 F rfl (Nat.lt_succ_self w5.heap.size))
          have HTL := Lib.hid (show ((ls.take k).map (kidT 2)).length + 1 ≤ 1000000 by rw [List.length_map, List.length_take]; have := HNN.out; omega)
          have hbase : w.heap.size + 1 ≤ (w5.alloc (.cells #[.string F] 9)).heap.size := by have := XB6.out.lt; exact this
          clear O5 HB5 XB5 X5
          go_wp2_with (refine wpList_append_el ES rfl (.tmp 67) (.tmp 69) rfl (w.heap.size + 1) v _ rfl K6.out (w5.heap.size + 1) (some ⟨w5.heap.size, 0, none⟩) 1 1 [F] rfl rfl RW.out HTL.out hbase ?_; intro v6 w6 ho6 hg6 hat6)
          have O6 := Lib.hid (show OwnE ES w6 (w.heap.size + 1) v6 ((ls.take (k + 1)).map (kidT 2)) by rw [HD.out, HK.out]; exact ho6)
          have B7 := Lib.hid (B6.out.grown hg6 B6.out.size (fun k e => by have := K6.out.ge k e; omega))
          have XB7 := Lib.hid (Blk.grown XB6.out hg6 (fun e => by have := K6.out.ge _ e; omega))
          clear ho6 hg6 hat6 K6 B6 XB6 RW p0 y0
          go_wp2_with fail
          go_roundw
          case rel => exact ⟨k + 1, by omega, by go_num, XB7.out, O6.out, B7.out⟩
          case measure => simp [intOf]; omega
    · have hlt1 : ¬ (k : Int) < (ls.length : Int) := by omega
      have hke : k = ls.length := by omega
      have O1 := Lib.hid (show OwnE ES wr (w.heap.size + 1) v (ls.map (kidT 2)) by have := HO.out; rw [hke, List.take_length] at this; exact this)
      have p0 := (xb_cells HXB.out).1
      clear HO hbw hke
      obtain ⟨A1, c1, rfl, _⟩ := O1.out.at
      have HJ := Lib.hid (vjoinE (ls.map (kidT 2)) ⟨#[32, 111, 114, 32]⟩ wr rfl (by rw [List.length_map]; exact HLN.out) (by rw [List.length_map]; have := HNN.out; omega) O1.out HJZ.out)
      generalize (ls.map (kidT 2)).length = nj at *
      clear O1
      go_wp2_with fail
      refine HJ.out.mono ?_
      rintro e w7 ⟨rfl, hb7⟩
      go_wp2_with fail
      go_ret
      exact ⟨ret_s (by rw [HV.out]), below_then HBW.out hb7⟩
end Go.Proofs.YtpldopoeopjcoaaGreatDoor
/- format of package expression: not. -/
namespace Go.Proofs.YtpldopoeopjcoaaGreatDoor
open Go.RowKit
attribute [local irreducible] sgN numS quoteS joinS
set_option maxRecDepth 100000 in
set_option maxHeartbeats 16000000 in
theorem vfmt3 (N : Nat) (R : FRec N) (cm kd nu : Int) (nm tx : ByteArray) (ls : List Ex) (A : Option Addr) (c : Nat) (ms : List Xe) (w : World) (hN : SizeOf.sizeOf (Ex.mk 3 cm kd nu nm tx ls) ≤ N + 1) (hsl : soundL ls = true) (hhd : headX 3 cm kd nu nm tx ls.length = true)
    (hni : ∀ y ∈ ls, NumX y) (hlx : (fmtT (.mk 3 cm kd nu nm tx ls)).size ≤ 1000000) (hl : ms.length = ls.length) (hn : ls.length ≤ 1000000) (hat : AtE EX w w.heap.size A ms) (ih : ∀ k (h1 : k < ls.length) (h2 : k < ms.length), ExV w w.heap.size (ls[k]) (ms[k])) (hE : Env w) (h1 : ls.length = 1) :
    Calls Tryz.prog 22 #[.agg (xC ⟨3, cm, kd, nu, nm, tx, A, ls.length, c⟩)] w fun e w' => e = .returned (.string (fmtT (.mk 3 cm kd nu nm tx ls))) ∧ Below w.heap.size w w' := by
  have HE := Lib.hid (fmtT_eq 3 cm kd nu nm tx ls)
  have HREC := Lib.hid R
  have HX := Lib.hid (show ∀ W : World, Below w.heap.size w W → ∀ k (h1 : k < ls.length) (h2 : k < ms.length), ExV W W.heap.size (ls[k]) (ms[k]) from fun W hW k h1 h2 => ((ih k h1 h2).keep (fun i hi => hW.block i hi)).more hW.size)
  have HAT := Lib.hid (show ∀ W : World, Below w.heap.size w W → AtE EX W w.heap.size A ms from fun W hW => hat.keep hW (Nat.le_refl _))
  have HSZ := Lib.hid (show ∀ k (h1 : k < ls.length), SizeOf.sizeOf ls[k] ≤ N from fun k h1 => by have := size_at (op := 3) (cm := cm) (kd := kd) (nu := nu) (nm := nm) (tx := tx) h1; omega)
  have HSD := Lib.hid (show ∀ k (h1 : k < ls.length), soundX ls[k] = true from fun k h1 => soundL_all hsl k h1)
  have HNX := Lib.hid (show ∀ k (h1 : k < ls.length), NumX ls[k] from fun k h1 => hni _ (List.getElem_mem h1))
  have HLX := Lib.hid (show ∀ k (h1 : k < ls.length), (fmtT ls[k]).size ≤ 1000000 from fun k h2 => Nat.le_trans (kid_le (List.getElem_mem h2) (fun _ => h1) (by decide) (by decide)) hlx)
  have HMS := Lib.hid hl
  have HNN := Lib.hid hn
  have HEV := Lib.hid (fun (W : World) (h : Below w.heap.size w W) => hE.below h)
  have XB := Lib.hid (Blk.new w (xC ⟨3, cm, kd, nu, nm, tx, A, ls.length, c⟩) 25)
  have HB := Lib.hid ((Below.refl w.heap.size w).alloc (Nat.le_refl _) (.cells (xC ⟨3, cm, kd, nu, nm, tx, A, ls.length, c⟩) 25))
  have HW1 := Lib.hid (show (w.alloc (.cells (xC ⟨3, cm, kd, nu, nm, tx, A, ls.length, c⟩) 25)).heap.size = w.heap.size + 1 by simp)
  have HLN := Lib.hid (show 1 ≤ ls.length from by omega)
  have HV := Lib.hid (show fmtT (.mk 3 cm kd nu nm tx ls) = ⟨#[110, 111, 116, 32]⟩ ++ (ls.map (kidT 3)).headD ⟨#[]⟩ by rw [HE.out]; rfl)
  have H1 := Lib.hid h1
  clear R hat ih hl hN hsl hhd hE hni HE hlx h1
  have q0 := (xb_cells XB.out).1
  have q6 := (xb_cells XB.out).2.2.2.2.2.2
  go_enter Tryz.func22, Tryz.ntmps22
  go_wp2_with fail
  clear q0 q6
  go_loopw [6, 45] (fun v i wr => ∃ k : Nat, k ≤ ls.length ∧ i = .int .i64 (k : Int) ∧ Blk wr w.heap.size 25 (xC ⟨3, cm, kd, nu, nm, tx, A, ls.length, c⟩) ∧ OwnE ES wr (w.heap.size + 1) v ((ls.take k).map (kidT 3)) ∧ Below w.heap.size w wr) (fun _ i _ => ls.length - (intOf i).toNat)
  case atStart => exact ⟨0, Nat.zero_le _, rfl, XB.out, OwnE.nil _ _, HB.out⟩
  case round =>
    obtain ⟨k, hk, rfl, hxb, hown, hbw⟩ := hrel
    generalize u6 = v at *
    have HBW := Lib.hid hbw
    have HXB := Lib.hid hxb
    have HO := Lib.hid hown
    clear hxb hown XB
    by_cases hlt : k < ls.length
    · have hlt1 : (k : Int) < (ls.length : Int) := by omega
      have hkm : k < ms.length := by rw [HMS.out]; exact hlt
      obtain ⟨ad, rfl, hab, hcx⟩ := HAT.out wr hbw k hkm
      obtain ⟨s0, s1, s2, s3, s4, s5, s6⟩ := x_cells (a := ad.add (k * 7)) hcx
      have HXK := Lib.hid (fun (W : World) (h : Below w.heap.size w W) => HX.out W h k hlt hkm)
      have HZ := Lib.hid (HSZ.out k hlt)
      have HSK := Lib.hid (HSD.out k hlt)
      have HNK := Lib.hid (HNX.out k hlt)
      have HLK := Lib.hid (HLX.out k hlt)
      have HD := Lib.hid (map_take (kidT 3) ls k hlt)
      clear hcx hbw
      generalize ls[k] = y at *
      generalize ms[k] = my at *
      have X3 := Lib.hid (Blk.new wr (xC my) 25)
      have HB3 := Lib.hid (HBW.out.alloc HBW.out.size (.cells (xC my) 25))
      have HMO := Lib.hid ((HXK.out _ HBW.out).op)
      go_wp2_with ((with_reducible refine load_blk ?_ 25 (.tmp 8) ?_ X3.out ?_ _ Tryz.underlying25 ?_ ?_ ?_); (iterate 4 rfl); exact x_sz _)
      refine (HREC.out y HZ.out HSK.out HNK.out HLK.out my _ (HXK.out _ HB3.out) (HEV.out _ HB3.out)).mono ?_
      rintro e w5 ⟨rfl, hb5⟩
      have HB5 := Lib.hid (below_then HB3.out hb5)
      have XB5 := Lib.hid ((HXB.out.alloc (.cells (xC my) 25)).below hb5)
      have X5 := Lib.hid (X3.out.below hb5)
      have O5 := Lib.hid ((HO.out.alloc (.cells (xC my) 25)).below hb5)
      clear s0 s1 s2 s3 s4 s5 s6 hb5 X3 HB3 HXB HO
      have p0 := (xb_cells XB5.out).1
      have y0 := (xb_cells X5.out).1
      generalize hF : fmtT y = F at *
      have HKT := Lib.hid (show kidT 3 y = wrapS 3 y F by unfold kidT; rw [hF])
      have zF : F.size ≤ 1000000 := HLK.out
      have zG : (⟨#[40]⟩ ++ F : ByteArray).size ≤ 1000001 := by rw [ByteArray.size_append]; have : (⟨#[40]⟩ : ByteArray).size = 1 := rfl; omega
      clear hF HLK
      cases d2 : (my.op == 2)
      case true =>
        have HK := Lib.hid (show kidT 3 y = ((⟨#[40]⟩ ++ F) ++ ⟨#[41]⟩) by rw [HKT.out]; exact wrap_yes (by unfold wrapB; rw [← HMO.out, d2]; rfl))
        have K6 := Lib.hid (O5.out.alloc (.cells #[.string ((⟨#[40]⟩ ++ F) ++ ⟨#[41]⟩)] 9))
        have B6 := Lib.hid (HB5.out.alloc HB5.out.size (.cells #[.string ((⟨#[40]⟩ ++ F) ++ ⟨#[41]⟩)] 9))
        have XB6 := Lib.hid (XB5.out.alloc (.cells #[.string ((⟨#[40]⟩ ++ F) ++ ⟨#[41]⟩)] 9))
        have RW := Lib.hid (row_newE ES w5 #[.string ((⟨#[40]⟩ ++ F) ++ ⟨#[41]⟩)] 9 ((⟨#[40]⟩ ++ F) ++ ⟨#[41]⟩) rfl (Nat.lt_succ_self w5.heap.size))
        have HTL := Lib.hid (show ((ls.take k).map (kidT 3)).length + 1 ≤ 1000000 by rw [List.length_map, List.length_take]; have := HNN.out; omega)
        have hbase : w.heap.size + 1 ≤ (w5.alloc (.cells #[.string ((⟨#[40]⟩ ++ F) ++ ⟨#[41]⟩)] 9)).heap.size := by have := XB6.out.lt; exact this
        clear O5 HB5 XB5 X5
        go_wp2_with (refine wpList_append_el ES rfl (.tmp 67) (.tmp 69) rfl (w.heap.size + 1) v _ rfl K6.out (w5.heap.size + 1) (some ⟨w5.heap.size, 0, none⟩) 1 1 [((⟨#[40]⟩ ++ F) ++ ⟨#[41]⟩)] rfl rfl RW.out HTL.out hbase ?_; intro v6 w6 ho6 hg6 hat6)
        have O6 := Lib.hid (show OwnE ES w6 (w.heap.size + 1) v6 ((ls.take (k + 1)).map (kidT 3)) by rw [HD.out, HK.out]; exact ho6)
        have B7 := Lib.hid (B6.out.grown hg6 B6.out.size (fun k e => by have := K6.out.ge k e; omega))
        have XB7 := Lib.hid (Blk.grown XB6.out hg6 (fun e => by have := K6.out.ge _ e; omega))
        clear ho6 hg6 hat6 K6 B6 XB6 RW p0 y0
        go_wp2_with fail
        go_roundw
        case rel => exact ⟨k + 1, by omega, by go_num, XB7.out, O6.out, B7.out⟩
        case measure => simp [intOf]; omega
      case false =>
        cases d1 : (my.op == 1)
        case true =>
          have HK := Lib.hid (show kidT 3 y = ((⟨#[40]⟩ ++ F) ++ ⟨#[41]⟩) by rw [HKT.out]; exact wrap_yes (by unfold wrapB; rw [← HMO.out, d2, d1]; rfl))
          have K6 := Lib.hid (O5.out.alloc (.cells #[.string ((⟨#[40]⟩ ++ F) ++ ⟨#[41]⟩)] 9))
          have B6 := Lib.hid (HB5.out.alloc HB5.out.size (.cells #[.string ((⟨#[40]⟩ ++ F) ++ ⟨#[41]⟩)] 9))
          have XB6 := Lib.hid (XB5.out.alloc (.cells #[.string ((⟨#[40]⟩ ++ F) ++ ⟨#[41]⟩)] 9))
          have RW := Lib.hid (row_newE ES w5 #[.string ((⟨#[40]⟩ ++ F) ++ ⟨#[41]⟩)] 9 ((⟨#[40]⟩ ++ F) ++ ⟨#[41]⟩) rfl (Nat.lt_succ_self w5.heap.size))
          have HTL := Lib.hid (show ((ls.take k).map (kidT 3)).length + 1 ≤ 1000000 by rw [List.length_map, List.length_take]; have := HNN.out; omega)
          have hbase : w.heap.size + 1 ≤ (w5.alloc (.cells #[.string ((⟨#[40]⟩ ++ F) ++ ⟨#[41]⟩)] 9)).heap.size := by have := XB6.out.lt; exact this
          clear O5 HB5 XB5 X5
          go_wp2_with (refine wpList_append_el ES rfl (.tmp 67) (.tmp 69) rfl (w.heap.size + 1) v _ rfl K6.out (w5.heap.size + 1) (some ⟨w5.heap.size, 0, none⟩) 1 1 [((⟨#[40]⟩ ++ F) ++ ⟨#[41]⟩)] rfl rfl RW.out HTL.out hbase ?_; intro v6 w6 ho6 hg6 hat6)
          have O6 := Lib.hid (show OwnE ES w6 (w.heap.size + 1) v6 ((ls.take (k + 1)).map (kidT 3)) by rw [HD.out, HK.out]; exact ho6)
          have B7 := Lib.hid (B6.out.grown hg6 B6.out.size (fun k e => by have := K6.out.ge k e; omega))
          have XB7 := Lib.hid (Blk.grown XB6.out hg6 (fun e => by have := K6.out.ge _ e; omega))
          clear ho6 hg6 hat6 K6 B6 XB6 RW p0 y0
          go_wp2_with fail
          go_roundw
          case rel => exact ⟨k + 1, by omega, by go_num, XB7.out, O6.out, B7.out⟩
          case measure => simp [intOf]; omega
        case false =>
          have HK := Lib.hid (show kidT 3 y = F by rw [HKT.out]; exact wrap_no (by unfold wrapB; rw [← HMO.out, d2, d1]; rfl))
          have K6 := Lib.hid (O5.out.alloc (.cells #[.string F] 9))
          have B6 := Lib.hid (HB5.out.alloc HB5.out.size (.cells #[.string F] 9))
          have XB6 := Lib.hid (XB5.out.alloc (.cells #[.string F] 9))
          have RW := Lib.hid (row_newE ES w5 #[.string F] 9 F rfl (Nat.lt_succ_self w5.heap.size))
          have HTL := Lib.hid (show ((ls.take k).map (kidT 3)).length + 1 ≤ 1000000 by rw [List.length_map, List.length_take]; have := HNN.out; omega)
          have hbase : w.heap.size + 1 ≤ (w5.alloc (.cells #[.string F] 9)).heap.size := by have := XB6.out.lt; exact this
          clear O5 HB5 XB5 X5
          go_wp2_with (refine wpList_append_el ES rfl (.tmp 67) (.tmp 69) rfl (w.heap.size + 1) v _ rfl K6.out (w5.heap.size + 1) (some ⟨w5.heap.size, 0, none⟩) 1 1 [F] rfl rfl RW.out HTL.out hbase ?_; intro v6 w6 ho6 hg6 hat6)
          have O6 := Lib.hid (show OwnE ES w6 (w.heap.size + 1) v6 ((ls.take (k + 1)).map (kidT 3)) by rw [HD.out, HK.out]; exact ho6)
          have B7 := Lib.hid (B6.out.grown hg6 B6.out.size (fun k e => by have := K6.out.ge k e; omega))
          have XB7 := Lib.hid (Blk.grown XB6.out hg6 (fun e => by have := K6.out.ge _ e; omega))
          clear ho6 hg6 hat6 K6 B6 XB6 RW p0 y0
          go_wp2_with fail
          go_roundw
          case rel => exact ⟨k + 1, by omega, by go_num, XB7.out, O6.out, B7.out⟩
          case measure => simp [intOf]; omega
    · have hlt1 : ¬ (k : Int) < (ls.length : Int) := by omega
      have hke : k = ls.length := by omega
      have O1 := Lib.hid (show OwnE ES wr (w.heap.size + 1) v (ls.map (kidT 3)) by have := HO.out; rw [hke, List.take_length] at this; exact this)
      have p0 := (xb_cells HXB.out).1
      clear HO hbw hke
      obtain ⟨z, hz⟩ := List.length_eq_one_iff.1 H1.out
      have HZ := Lib.hid hz
      have HHD := Lib.hid (show (ls.map (kidT 3)).headD ⟨#[]⟩ = kidT 3 z by rw [hz]; rfl)
      have hO1 := O1.out
      have hL1 := HLX.out 0 (by rw [hz]; exact Nat.one_pos)
      rw [hz] at hO1
      obtain ⟨A1, c1, rfl, hat1⟩ := hO1.at
      obtain ⟨ad1, e1, hab1, hcx1⟩ := hat1 0 (by show 0 < 1; omega)
      subst e1
      have r0 : wr.cell? ad1 = some (.string (kidT 3 z)) := hcx1 0 (by show 0 < 1; omega)
      have zK : (kidT 3 z).size ≤ 1000002 := by
        have hz0 : ls[0]'(by rw [hz]; exact Nat.one_pos) = z := by simp [hz]
        rw [hz0] at hL1
        show (wrapS 3 z (fmtT z)).size ≤ _
        unfold wrapS
        split
        · rw [ByteArray.size_append, ByteArray.size_append]; have : (⟨#[40]⟩ : ByteArray).size = 1 := rfl; have : (⟨#[41]⟩ : ByteArray).size = 1 := rfl; omega
        · omega
      clear hO1 hL1 hat1 hcx1 O1 hz HX HAT HSZ HSD HNX HLX HMS
      generalize kidT 3 z = KT at *
      have hla : ([z].map (kidT 3)).length = 1 := rfl
      simp only [List.map_cons, List.map_nil, List.length_cons, List.length_nil] at *
      go_wp2_with fail
      go_ret
      exact ⟨ret_s (by rw [HV.out, HHD.out]), HBW.out⟩
end Go.Proofs.YtpldopoeopjcoaaGreatDoor
/- format of package expression, by the size of the tree. -/
namespace Go.Proofs.YtpldopoeopjcoaaGreatDoor
open Go.RowKit
theorem vformat38 : ∀ (N : Nat), FRec N
  | 0 => fun x hN => by cases x; simp at hN
  | N + 1 => fun x hN hsd hnx hlx m w hx hE => by
    cases hx with
    | mk op cm kd nu nm tx ls A c ms hl hn hs hat ih =>
    rw [soundX_eq] at hsd
    simp only [Bool.and_eq_true] at hsd
    obtain ⟨hsl, hhd⟩ := hsd
    cases hnx with
    | mk _ _ _ _ _ _ _ hnu hni =>
    rcases head_cases hhd with rfl | rfl | ⟨rfl, h1⟩ | ⟨rfl, hc⟩ | rfl
    · exact vfmt1 N (vformat38 N) cm kd nu nm tx ls A c ms w hN hsl hhd hni hlx hl hn hat ih hE
    · exact vfmt2 N (vformat38 N) cm kd nu nm tx ls A c ms w hN hsl hhd hni hlx hl hn hat ih hE
    · exact vfmt3 N (vformat38 N) cm kd nu nm tx ls A c ms w hN hsl hhd hni hlx hl hn hat ih hE h1
    · rw [fmtT_eq]
      exact vfmt4 cm kd nu nm tx A ls.length c (nam_sz (head_nm hhd (.inl rfl))) hc hnu w hE
    · rw [fmtT_eq]
      exact vfmt5 cm kd nu nm tx A ls.length c (nam_sz (head_nm hhd (.inr rfl))) w
end Go.Proofs.YtpldopoeopjcoaaGreatDoor
/- Format of package expression. -/
namespace Go.Proofs.YtpldopoeopjcoaaGreatDoor
open Go.RowKit
/-- What Format writes. -/
def formE (x : Ex) : ByteArray := if checkX x = 0 then fmtT x else ⟨#[]⟩
theorem check_sound38 {x : Ex} (h : checkX x = 0) : soundX x = true := by
  unfold checkX at h
  split at h
  · split at h
    · assumption
    · omega
  · omega
attribute [local irreducible] checkX
set_option maxRecDepth 100000 in
set_option maxHeartbeats 8000000 in
theorem vFormat38 (x : Ex) (m : Xe) (w : World) (hx : ExV w w.heap.size x m) (hn : checkX x = 0 → NumX x ∧ (fmtT x).size ≤ 1000000) (hE : Env w) :
    Calls Tryz.prog 8 #[.agg (xC m)] w fun e w' => e = .returned (.string (formE x)) ∧ Below w.heap.size w w' := by
  have X0 := Lib.hid (Blk.new w (xC m) 25)
  have B0 := Lib.hid ((Below.refl w.heap.size w).alloc (Nat.le_refl _) (.cells (xC m) 25))
  have HX := Lib.hid (show ∀ W : World, Below w.heap.size w W → ExV W W.heap.size x m from fun W h => (hx.keep (fun i hi => h.block i hi)).more h.size)
  have HE := Lib.hid (show ∀ W : World, Below w.heap.size w W → Env W from fun W h => hE.below h)
  have HC := Lib.hid (vcheckX x m _ (HX.out _ B0.out))
  have HN := Lib.hid hn
  clear hx hE hn
  go_enter Tryz.func8, Tryz.ntmps8
  go_wp2_with ((with_reducible refine load_blk ?_ 25 (.tmp 1) ?_ X0.out ?_ _ Tryz.underlying25 ?_ ?_ ?_); (iterate 4 rfl); exact x_sz _)
  refine HC.out.mono ?_
  rintro e w1 ⟨rfl, hb⟩
  have X1 := Lib.hid (X0.out.below hb)
  have B1 := Lib.hid (B0.out.trans (hb.mono B0.out.size))
  clear hb X0 HC
  by_cases hc : checkX x = 0
  · have HV := Lib.hid (show formE x = fmtT x from if_pos hc)
    have HF := Lib.hid (vformat38 _ x (Nat.le_refl _) (check_sound38 hc) (HN.out hc).1 (HN.out hc).2 m _ (HX.out _ B1.out) (HE.out _ B1.out))
    rw [hc]
    clear hc
    go_wp2_with ((with_reducible refine load_blk ?_ 25 (.tmp 1) ?_ X1.out ?_ _ Tryz.underlying25 ?_ ?_ ?_); (iterate 4 rfl); exact x_sz _)
    refine HF.out.mono ?_
    rintro e w2 ⟨rfl, hb2⟩
    go_wp2_with fail
    go_ret
    exact ⟨ret_s (by rw [HV.out]), B1.out.trans (hb2.mono B1.out.size)⟩
  · have HV := Lib.hid (show formE x = ⟨#[]⟩ from if_neg hc)
    have hc1 : (checkX x != 0) = true := by simpa using hc
    clear hc
    generalize checkX x = q at *
    go_wp2_with fail
    go_ret
    exact ⟨ret_s (by rw [HV.out]), B1.out⟩
end Go.Proofs.YtpldopoeopjcoaaGreatDoor
/- How many nodes and levels expressions have: plain. -/
namespace Go.Proofs.YtpldopoeopjcoaaGreatDoor
open Go.RowKit
def cntL : List Ex → Nat
  | [] => 0
  | (.mk _ _ _ _ _ _ ls) :: r => 1 + cntL ls + cntL r
termination_by l => SizeOf.sizeOf l
decreasing_by all_goals (simp_wf; omega)
def depL : List Ex → Nat
  | [] => 0
  | (.mk _ _ _ _ _ _ ls) :: r => max (1 + depL ls) (depL r)
termination_by l => SizeOf.sizeOf l
decreasing_by all_goals (simp_wf; omega)
theorem cntL_cons (op cm kd nu : Int) (nm tx : ByteArray) (ls r : List Ex) : cntL (.mk op cm kd nu nm tx ls :: r) = 1 + cntL ls + cntL r := by rw [cntL]
theorem depL_cons (op cm kd nu : Int) (nm tx : ByteArray) (ls r : List Ex) : depL (.mk op cm kd nu nm tx ls :: r) = max (1 + depL ls) (depL r) := by rw [depL]
theorem cntL_nil : cntL [] = 0 := by rw [cntL]
theorem depL_nil : depL [] = 0 := by rw [depL]
theorem cntL_one (x : Ex) (r : List Ex) : cntL (x :: r) = cntL [x] + cntL r := by
  cases x; rw [cntL_cons, cntL_cons, cntL_nil]; omega
theorem depL_one (x : Ex) (r : List Ex) : depL (x :: r) = max (depL [x]) (depL r) := by
  cases x; rw [depL_cons, depL_cons, depL_nil]; omega
theorem small_fit : ∀ (n : Nat) (L : List Ex) (lv left : Int), SizeOf.sizeOf L ≤ n → (depL L : Int) ≤ lv → (cntL L : Int) ≤ left → smallL L lv left = (true, left - cntL L)
  | _, [], lv, left, _, _, _ => by rw [smallL, cntL_nil]; simp
  | 0, .mk _ _ _ _ _ _ _ :: r, _, _, h, _, _ => by simp at h
  | n + 1, .mk op cm kd nu nm tx ls :: r, lv, left, h, hd, hc => by
    have hs : SizeOf.sizeOf ls ≤ n ∧ SizeOf.sizeOf r ≤ n := by simp at h; omega
    rw [depL_cons] at hd
    rw [cntL_cons] at hc ⊢
    rw [smallL, if_neg (by omega), small_fit n ls (lv - 1) (left - 1) hs.1 (by omega) (by omega)]
    simp only [if_true]
    rw [small_fit n r lv (left - 1 - cntL ls) hs.2 (by omega) (by omega)]
    congr 1
    omega
theorem small_cnt : ∀ (n : Nat) (L : List Ex) (lv left : Int), SizeOf.sizeOf L ≤ n → (smallL L lv left).1 = true → (smallL L lv left).2 = left - cntL L ∧ (0 ≤ left → (cntL L : Int) ≤ left)
  | _, [], lv, left, _, _ => by rw [smallL, cntL_nil]; simp
  | 0, .mk _ _ _ _ _ _ _ :: r, _, _, h, _ => by simp at h
  | n + 1, .mk op cm kd nu nm tx ls :: r, lv, left, h, hc => by
    have hs : SizeOf.sizeOf ls ≤ n ∧ SizeOf.sizeOf r ≤ n := by simp at h; omega
    rw [cntL_cons]
    rw [smallL] at hc ⊢
    by_cases h1 : left - 1 < 0 ∨ lv < 1
    · rw [if_pos h1] at hc; cases hc
    · rw [if_neg h1] at hc ⊢
      by_cases h2 : (smallL ls (lv - 1) (left - 1)).1 = true
      · rw [if_pos h2] at hc ⊢
        obtain ⟨a1, a2⟩ := small_cnt n ls (lv - 1) (left - 1) hs.1 h2
        have h3 := a2 (by omega)
        rw [a1] at hc ⊢
        obtain ⟨b1, b2⟩ := small_cnt n r lv (left - 1 - cntL ls) hs.2 hc
        rw [b1]
        refine ⟨by omega, fun h0 => ?_⟩
        have := b2 (by omega)
        omega
      · rw [if_neg h2] at hc; cases hc
theorem check_fit {x : Ex} (hs : soundX x = true) (hd : depL [x] ≤ 6) (hc : cntL [x] ≤ 24) : checkX x = 0 := by
  unfold checkX smallX
  rw [small_fit _ [x] 6 24 (Nat.le_refl _) (by omega) (by omega), hs]
  rfl
theorem check_cnt {x : Ex} (h : checkX x = 0) : cntL [x] ≤ 24 := by
  unfold checkX smallX at h
  split at h
  · rename_i h1
    have := (small_cnt _ [x] 6 24 (Nat.le_refl _) h1).2 (by omega)
    omega
  · omega
/-- What the mill makes. -/
def GoodM (d : Nat) (x : Ex) : Prop := soundX x = true ∧ NumX x ∧ depL [x] ≤ d + 1 ∧ (d ≤ 1 → cntL [x] ≤ 1 + 3 * d)
theorem good_leaf (d : Nat) {op cm kd nu : Int} {nm tx : ByteArray} (h : headX op cm kd nu nm tx 0 = true) (hn : I64 nu) : GoodM d (.mk op cm kd nu nm tx []) := by
  refine ⟨sound_leaf h, NumX.mk _ _ _ _ _ _ _ hn (fun y hy => by cases hy), ?_, fun _ => ?_⟩
  · rw [depL_cons, depL_nil]; omega
  · rw [cntL_cons, cntL_nil]; omega
theorem i64z : I64 0 := ⟨by decide, by decide⟩
theorem good_list {d : Nat} {op : Int} {L : List Ex} (ho : op = 1 ∨ op = 2) (h2 : 2 ≤ L.length) (h3 : L.length ≤ 3) (hL : ∀ y ∈ L, GoodM d y) : GoodM (d + 1) (.mk op 0 0 0 ⟨#[]⟩ ⟨#[]⟩ L) := by
  have hs : ∀ M : List Ex, (∀ y ∈ M, GoodM d y) → soundL M = true ∧ depL M ≤ d + 1 ∧ (d ≤ 1 → cntL M ≤ M.length * (1 + 3 * d)) := fun M => by
    induction M with
    | nil => exact fun _ => ⟨by rw [soundL], by rw [depL_nil]; omega, fun _ => by rw [cntL_nil]; omega⟩
    | cons y M ih =>
      intro h
      obtain ⟨a1, a2, a3⟩ := ih (fun z hz => h z (List.mem_cons_of_mem _ hz))
      obtain ⟨b1, _, b3, b4⟩ := h y (List.mem_cons_self ..)
      refine ⟨by rw [soundL_cons, b1, a1]; rfl, by rw [depL_one]; omega, fun hd => ?_⟩
      have := a3 hd
      have := b4 hd
      rw [cntL_one, List.length_cons, Nat.add_mul]
      omega
  obtain ⟨a1, a2, a3⟩ := hs L hL
  refine ⟨?_, NumX.mk _ _ _ _ _ _ _ i64z (fun y hy => (hL y hy).2.1), ?_, fun hd => ?_⟩
  · rw [soundX_eq, a1]
    unfold headX
    rw [if_pos ho]
    simp only [Bool.true_and, Bool.and_eq_true, decide_eq_true_eq]
    exact ⟨by decide +kernel, h2⟩
  · rw [depL_cons, depL_nil]; omega
  · have h0 : d = 0 := by omega
    subst h0
    have := a3 (by omega)
    rw [cntL_cons, cntL_nil]
    omega
theorem good_not {d : Nat} {y : Ex} (h : GoodM d y) : GoodM (d + 1) (.mk 3 0 0 0 ⟨#[]⟩ ⟨#[]⟩ [y]) := by
  obtain ⟨h1, h2, h3, h4⟩ := h
  refine ⟨?_, NumX.mk _ _ _ _ _ _ _ i64z (fun z hz => by rw [List.mem_singleton.1 hz]; exact h2), ?_, fun hd => ?_⟩
  · rw [soundX_eq, soundL_cons, h1, soundL]
    show (true && true && headX 3 0 0 0 ⟨#[]⟩ ⟨#[]⟩ 1) = true
    decide +kernel
  · rw [depL_cons, depL_nil]; omega
  · have := h4 (by omega)
    rw [cntL_cons, cntL_nil]
    omega
end Go.Proofs.YtpldopoeopjcoaaGreatDoor

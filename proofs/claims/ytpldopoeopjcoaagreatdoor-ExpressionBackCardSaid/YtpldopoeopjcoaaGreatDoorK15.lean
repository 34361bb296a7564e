/- Texts of one proof, laid together. -/
import Derived.Test.YtpldopoeopjcoaaGreatDoorK14
/- eval of package expression at a test and at has. -/
namespace Go.Proofs.YtpldopoeopjcoaaGreatDoor
open Go.RowKit
def stepT (m : Xe) (r : Int) (p : Pr) : Int := if p.nm.toList == m.nm.toList && p.kd == m.kd && r != 1 then (if holdsB m.cm m.kd m.nu m.tx p = true then 1 else 2) else r
def evT (m : Xe) (ps : List Pr) : Int := ps.foldl (stepT m) 3
def evH (m : Xe) (ps : List Pr) : Int := if ps.any (fun p => p.nm.toList == m.nm.toList) = true then 1 else 2
theorem fold_take {α β : Type} (f : β → α → β) (b : β) (l : List α) (k : Nat) (hk : k < l.length) : (l.take (k + 1)).foldl f b = f ((l.take k).foldl f b) l[k] := by
  rw [List.take_succ_eq_append_getElem hk, List.foldl_append]; rfl
theorem p_cells {w : World} {a : Addr} {p : Pr} (h : ∀ j, j < 4 → w.cell? (a.add j) = (EP.C p)[j]?) :
    w.cell? a = some (.string p.nm) ∧ w.cell? ⟨a.block, a.off + 1, none⟩ = some (.int .i64 p.kd) ∧ w.cell? ⟨a.block, a.off + 2, none⟩ = some (.int .i64 p.nu) ∧ w.cell? ⟨a.block, a.off + 3, none⟩ = some (.string p.tx) :=
  ⟨h 0 (by omega), h 1 (by omega), h 2 (by omega), h 3 (by omega)⟩
theorem p_sz (p : Pr) : (Tryz.prog.info? 58).map (·.size) = some (pC p).size := by show _ = some 4; kernel_rfl
/-- The pairs of an event in memory. -/
structure PsAt (w : World) (A : Option Addr) (ps : List Pr) : Prop where
  ats : AtE EP w w.heap.size A ps
  ln : ps.length ≤ 1000000
  tx : ∀ p ∈ ps, p.tx.size < 4294967281
theorem PsAt.below {w w' : World} {A : Option Addr} {ps : List Pr} (h : PsAt w A ps) (hb : Below w.heap.size w w') : PsAt w' A ps := ⟨h.ats.below hb, h.ln, h.tx⟩
set_option maxRecDepth 100000 in
set_option maxHeartbeats 8000000 in
theorem veval4 (m : Xe) (hop : m.op = 4) (hcm : cmpsB m.cm m.kd m.nu m.tx = true) (A : Option Addr) (n c : Nat) (ps : List Pr) (hn : n = ps.length) (w : World) (hp : PsAt w A ps) (hM : Mx w) :
    Calls Tryz.prog 34 #[.agg (xC m), .slice A n c] w fun e w' => e = .returned (.int .i64 (evT m ps)) ∧ Below w.heap.size w w' := by
  have HP := Lib.hid hp
  have HM := Lib.hid (fun (W : World) (h : Below w.heap.size w W) => hM.below h)
  have HCM := Lib.hid hcm
  have XB := Lib.hid (Blk.new w (xC m) 25)
  have HB := Lib.hid ((Below.refl w.heap.size w).alloc (Nat.le_refl _) (.cells (xC m) 25))
  have HN := Lib.hid hn
  have hln : n ≤ 1000000 := by rw [hn]; exact hp.ln
  have q0 := (xb_cells XB.out).1
  rw [hop] at q0
  clear hp hM hcm hn
  go_enter Tryz.func34, Tryz.ntmps34
  go_wp2_with fail
  clear q0
  go_loopw [5, 21] (fun v i wr => ∃ k : Nat, k ≤ n ∧ i = .int .i64 (k : Int) ∧ v = .int .i64 ((ps.take k).foldl (stepT m) 3) ∧ Below w.heap.size w wr ∧ Blk wr w.heap.size 25 (xC m)) (fun _ i _ => n - (intOf i).toNat)
  case atStart => exact ⟨0, Nat.zero_le _, rfl, rfl, HB.out, XB.out⟩
  case round =>
    obtain ⟨k, hk, rfl, rfl, hbw, hxb⟩ := hrel
    have HBW := Lib.hid hbw
    by_cases hlt : k < n
    · have hkp : k < ps.length := by rw [← HN.out]; exact hlt
      have hlt1 : (k : Int) < (n : Int) := by omega
      obtain ⟨ad, rfl, hab, hcx⟩ := (HP.out.below hbw).ats k hkp
      obtain ⟨s0, s1, s2, s3⟩ := p_cells (a := ad.add (k * 4)) hcx
      have HTX := Lib.hid (HP.out.tx _ (List.getElem_mem hkp))
      have HF := Lib.hid (fold_take (stepT m) 3 ps k hkp)
      generalize hr : (ps.take k).foldl (stepT m) 3 = r at *
      generalize ps[k] = p at *
      have X2 := Lib.hid (hxb.alloc (.cells (pC p) 58))
      have X3 := Lib.hid (Blk.new wr (pC p) 58)
      obtain ⟨x0, x1, x2, x3, x4, x5, x6⟩ := xb_cells X2.out
      have HB3 := Lib.hid (hbw.alloc hbw.size (.cells (pC p) 58))
      have HST := Lib.hid (show stepT m r p = if p.nm.toList == m.nm.toList && p.kd == m.kd && r != 1 then (if holdsB m.cm m.kd m.nu m.tx p = true then 1 else 2) else r from rfl)
      clear hcx hbw hxb hr
      have y0 := X3.out.cell 0
      have y1 := X3.out.cell 1
      cases b1 : (p.nm.toList == m.nm.toList)
      case false =>
        have HG := Lib.hid (show stepT m r p = r by rw [HST.out, b1]; rfl)
        go_wp2_with fail
        go_roundw
        case rel => exact ⟨k + 1, by omega, by go_num, by rw [HF.out, HG.out], HB3.out, X2.out⟩
        case measure => simp [intOf]; omega
      case true =>
      cases b2 : (p.kd == m.kd)
      case false =>
        have HG := Lib.hid (show stepT m r p = r by rw [HST.out, b1, b2]; rfl)
        go_wp2_with fail
        go_roundw
        case rel => exact ⟨k + 1, by omega, by go_num, by rw [HF.out, HG.out], HB3.out, X2.out⟩
        case measure => simp [intOf]; omega
      case true =>
      cases b3 : (r != 1)
      case false =>
        have HG := Lib.hid (show stepT m r p = r by rw [HST.out, b1, b2, b3]; rfl)
        go_wp2_with fail
        go_roundw
        case rel => exact ⟨k + 1, by omega, by go_num, by rw [HF.out, HG.out], HB3.out, X2.out⟩
        case measure => simp [intOf]; omega
      case true =>
      have HG := Lib.hid (show stepT m r p = (if holdsB m.cm m.kd m.nu m.tx p = true then 1 else 2) by rw [HST.out, b1, b2, b3]; rfl)
      have HV := Lib.hid (vholds m p HCM.out HTX.out _ (HM.out _ HB3.out))
      go_wp2_with (first | ((with_reducible refine load_blk ?_ 25 (.tmp 2) ?_ X2.out ?_ _ Tryz.underlying25 ?_ ?_ ?_); (iterate 4 rfl); exact x_sz _) | ((with_reducible refine load_blk ?_ 58 (.tmp 7) ?_ X3.out ?_ _ Tryz.underlying58 ?_ ?_ ?_); (iterate 4 rfl); exact p_sz _))
      refine HV.out.mono ?_
      rintro e w5 ⟨rfl, hb5⟩
      have HB5 := Lib.hid (below_then HB3.out hb5)
      have X5 := Lib.hid (X2.out.below hb5)
      clear hb5
      go_wp2_with fail
      refine (vtruth _ w5).mono ?_
      rintro e w6 ⟨rfl, rfl⟩
      go_wp2_with fail
      go_roundw
      case rel => exact ⟨k + 1, by omega, by go_num, by rw [HF.out, HG.out], HB5.out, X5.out⟩
      case measure => simp [intOf]; omega
    · have hkn : k = n := by omega
      have HF := Lib.hid (show (ps.take k).foldl (stepT m) 3 = evT m ps by rw [hkn, HN.out, List.take_length]; rfl)
      have hlt1 : ¬ (k : Int) < (n : Int) := by omega
      clear hkn hbw hxb
      go_wp2_with fail
      go_ret
      exact ⟨by rw [← HF.out]; rfl, HBW.out⟩
end Go.Proofs.YtpldopoeopjcoaaGreatDoor
/- eval of package expression at has. -/
namespace Go.Proofs.YtpldopoeopjcoaaGreatDoor
open Go.RowKit
theorem any_no {α : Type} (f : α → Bool) (l : List α) (k : Nat) (hk : k < l.length) (h : (l.take k).any f = false) (hx : f l[k] = false) : (l.take (k + 1)).any f = false := by
  rw [List.take_succ_eq_append_getElem hk, List.any_append, h]; simp [hx]
theorem any_yes {α : Type} (f : α → Bool) (l : List α) (k : Nat) (hk : k < l.length) (hx : f l[k] = true) : l.any f = true := List.any_eq_true.2 ⟨_, List.getElem_mem hk, hx⟩
set_option maxRecDepth 100000 in
set_option maxHeartbeats 8000000 in
theorem veval5 (m : Xe) (hop : m.op = 5) (A : Option Addr) (n c : Nat) (ps : List Pr) (hn : n = ps.length) (w : World) (hp : PsAt w A ps) :
    Calls Tryz.prog 34 #[.agg (xC m), .slice A n c] w fun e w' => e = .returned (.int .i64 (evH m ps)) ∧ Below w.heap.size w w' := by
  have HP := Lib.hid hp
  have XB := Lib.hid (Blk.new w (xC m) 25)
  have HB := Lib.hid ((Below.refl w.heap.size w).alloc (Nat.le_refl _) (.cells (xC m) 25))
  have HN := Lib.hid hn
  have HE := Lib.hid (show evH m ps = if ps.any (fun p => p.nm.toList == m.nm.toList) = true then 1 else 2 from rfl)
  have hln : n ≤ 1000000 := by rw [hn]; exact hp.ln
  have q0 := (xb_cells XB.out).1
  rw [hop] at q0
  clear hp hn
  go_enter Tryz.func34, Tryz.ntmps34
  go_wp2_with fail
  clear q0
  go_loopw [51] (fun i wr => ∃ k : Nat, k ≤ n ∧ i = .int .i64 (k : Int) ∧ Hid ((ps.take k).any (fun p => p.nm.toList == m.nm.toList) = false) ∧ Below w.heap.size w wr ∧ Blk wr w.heap.size 25 (xC m)) (fun i _ => n - (intOf i).toNat)
  case atStart => exact ⟨0, Nat.zero_le _, rfl, Lib.hid rfl, HB.out, XB.out⟩
  case round =>
    obtain ⟨k, hk, rfl, hno, hbw, hxb⟩ := hrel
    have HBW := Lib.hid hbw
    by_cases hlt : k < n
    · have hkp : k < ps.length := by rw [← HN.out]; exact hlt
      have hlt1 : (k : Int) < (n : Int) := by omega
      obtain ⟨ad, rfl, hab, hcx⟩ := (HP.out.below hbw).ats k hkp
      obtain ⟨s0, s1, s2, s3⟩ := p_cells (a := ad.add (k * 4)) hcx
      have HY := Lib.hid (any_yes (fun p : Pr => p.nm.toList == m.nm.toList) ps k hkp)
      have HZ := Lib.hid (any_no (fun p : Pr => p.nm.toList == m.nm.toList) ps k hkp hno.out)
      generalize ps[k] = p at *
      have X2 := Lib.hid (hxb.alloc (.cells (pC p) 58))
      have X3 := Lib.hid (Blk.new wr (pC p) 58)
      obtain ⟨x0, x1, x2, x3, x4, x5, x6⟩ := xb_cells X2.out
      have HB3 := Lib.hid (hbw.alloc hbw.size (.cells (pC p) 58))
      clear hcx hbw hxb hno
      have y0 := X3.out.cell 0
      cases b1 : (p.nm.toList == m.nm.toList)
      case false =>
        have HG := Lib.hid (HZ.out b1)
        clear HY
        go_wp2_with fail
        go_roundw
        case rel => exact ⟨k + 1, by omega, by go_num, HG, HB3.out, X2.out⟩
        case measure => simp [intOf]; omega
      case true =>
        have HG := Lib.hid (show evH m ps = 1 by rw [HE.out, HY.out b1]; rfl)
        clear HZ HY
        go_wp2_with fail
        go_ret
        exact ⟨by rw [HG.out]; rfl, HB3.out⟩
    · have hkn : k = n := by omega
      have HG := Lib.hid (show evH m ps = 2 by rw [HE.out]; have := hno.out; rw [hkn, HN.out, List.take_length] at this; rw [this]; rfl)
      have hlt1 : ¬ (k : Int) < (n : Int) := by omega
      clear hkn hbw hxb hno
      go_wp2_with fail
      go_ret
      exact ⟨by rw [HG.out]; rfl, HBW.out⟩
end Go.Proofs.YtpldopoeopjcoaaGreatDoor
/- eval of package expression, by the size of the tree. -/
namespace Go.Proofs.YtpldopoeopjcoaaGreatDoor
open Go.RowKit
def notV (v : Int) : Int := if v = 1 then 2 else if v = 2 then 1 else 3
def foldB (strong : Int) : List Int → Int → Int
  | [], r => r
  | v :: l, r => if v = strong then strong else foldB strong l (if v = 3 then 3 else r)
def evN (ps : List Pr) (op cm kd nu : Int) (nm tx : ByteArray) (vs : List Int) : Int :=
  if op = 4 then evT ⟨op, cm, kd, nu, nm, tx, none, 0, 0⟩ ps else if op = 5 then evH ⟨op, cm, kd, nu, nm, tx, none, 0, 0⟩ ps
  else if op = 3 then notV (vs.headD 3) else if op = 2 then foldB 1 vs 2 else foldB 2 vs 1
/-- What eval says. -/
def evX (ps : List Pr) : Ex → Int
  | .mk op cm kd nu nm tx ls => evN ps op cm kd nu nm tx (ls.attach.map fun a => evX ps a.1)
termination_by x => SizeOf.sizeOf x
decreasing_by
  have := List.sizeOf_lt_of_mem a.2
  simp_wf
  omega
theorem evX_eq (ps : List Pr) (op cm kd nu : Int) (nm tx : ByteArray) (ls : List Ex) : evX ps (.mk op cm kd nu nm tx ls) = evN ps op cm kd nu nm tx (ls.map (evX ps)) := by
  rw [evX]
  congr 1
  simp
theorem soundL_all {ls : List Ex} (h : soundL ls = true) (k : Nat) (hk : k < ls.length) : soundX ls[k] = true := by
  cases hq : soundX ls[k] with
  | true => rfl
  | false => rw [soundL_no ls k hk hq] at h; cases h
theorem head_cases {op cm kd nu : Int} {nm tx : ByteArray} {n : Nat} (h : headX op cm kd nu nm tx n = true) : op = 1 ∨ op = 2 ∨ (op = 3 ∧ n = 1) ∨ (op = 4 ∧ cmpsB cm kd nu tx = true) ∨ op = 5 := by
  unfold headX at h
  split at h
  · rename_i h1; rcases h1 with h1 | h1 <;> simp [h1]
  · split at h
    · rename_i h1; simp at h; right; right; left; exact ⟨h1, by simpa using h.2⟩
    · split at h
      · rename_i h1; simp at h; right; right; right; left; exact ⟨h1, h.2⟩
      · split at h
        · rename_i h1; simp [h1]
        · cases h
set_option maxRecDepth 100000 in
set_option maxHeartbeats 16000000 in
theorem veval : ∀ (N : Nat) (x : Ex), SizeOf.sizeOf x ≤ N → soundX x = true → ∀ (m : Xe) (w : World) (PA : Option Addr) (pn pc : Nat) (ps : List Pr), ExV w w.heap.size x m → pn = ps.length → PsAt w PA ps → Mx w →
    Calls Tryz.prog 34 #[.agg (xC m), .slice PA pn pc] w fun e w' => e = .returned (.int .i64 (evX ps x)) ∧ Below w.heap.size w w'
  | 0, .mk _ _ _ _ _ _ _, hN => by simp at hN
  | N + 1, x, hN => fun hsd m w PA pn pc ps hx hpn hp hM => by
    cases hx with
    | mk op cm kd nu nm tx ls A c ms hl hn hs hat ih =>
    rw [soundX_eq] at hsd
    simp only [Bool.and_eq_true] at hsd
    obtain ⟨hsl, hhd⟩ := hsd
    have HE := Lib.hid (evX_eq ps op cm kd nu nm tx ls)
    rcases head_cases hhd with rfl | rfl | ⟨rfl, h1⟩ | ⟨rfl, hc⟩ | rfl
    · have HX := Lib.hid (show ∀ W : World, Below w.heap.size w W → ∀ k (h1 : k < ls.length) (h2 : k < ms.length), ExV W W.heap.size (ls[k]) (ms[k]) from fun W hW k h1 h2 => ((ih k h1 h2).keep (fun i hi => hW.block i hi)).more hW.size)
      have HAT := Lib.hid (show ∀ W : World, Below w.heap.size w W → AtE EX W w.heap.size A ms from fun W hW => hat.keep hW (Nat.le_refl _))
      have HSZ := Lib.hid (show ∀ k (h1 : k < ls.length), SizeOf.sizeOf ls[k] ≤ N from fun k h1 => by have := size_at (op := 1) (cm := cm) (kd := kd) (nu := nu) (nm := nm) (tx := tx) h1; omega)
      have HSD := Lib.hid (show ∀ k (h1 : k < ls.length), soundX ls[k] = true from fun k h1 => soundL_all hsl k h1)
      have HMS := Lib.hid hl
      have HPN := Lib.hid hpn
      have HPS := Lib.hid (show ∀ W : World, Below w.heap.size w W → PsAt W PA ps from fun W h => hp.below h)
      have HMX := Lib.hid (show ∀ W : World, Below w.heap.size w W → Mx W from fun W h => hM.below h)
      have XB := Lib.hid (Blk.new w (xC ⟨1, cm, kd, nu, nm, tx, A, ls.length, c⟩) 25)
      have HB := Lib.hid ((Below.refl w.heap.size w).alloc (Nat.le_refl _) (.cells (xC ⟨1, cm, kd, nu, nm, tx, A, ls.length, c⟩) 25))
      have HV := Lib.hid (show evX ps (.mk 1 cm kd nu nm tx ls) = foldB 2 (ls.map (evX ps)) 1 by rw [HE.out]; rfl)
      clear hat ih hs hl hN hsl hhd hp hM hpn HE
      have q0 := (xb_cells XB.out).1
      have q6 := (xb_cells XB.out).2.2.2.2.2.2
      go_enter Tryz.func34, Tryz.ntmps34
      go_wp2_with fail
      clear q0 q6
      go_loopw [12, 80] (fun v i wr => ∃ (k : Nat) (r : Int), k ≤ ls.length ∧ i = .int .i64 (k : Int) ∧ v = .int .i64 r ∧ Hid (foldB 2 (ls.map (evX ps)) 1 = foldB 2 ((ls.drop k).map (evX ps)) r) ∧ Below w.heap.size w wr) (fun _ i _ => ls.length - (intOf i).toNat)
      case atStart => exact ⟨0, 1, Nat.zero_le _, rfl, rfl, Lib.hid rfl, HB.out⟩
      case round =>
        obtain ⟨k, r, hk, rfl, rfl, hfo, hbw⟩ := hrel
        have HBW := Lib.hid hbw
        by_cases hlt : k < ls.length
        · have hlt1 : (k : Int) < (ls.length : Int) := by omega
          have hkm : k < ms.length := by rw [HMS.out]; exact hlt
          obtain ⟨ad, rfl, hab, hcx⟩ := HAT.out wr hbw k hkm
          obtain ⟨s0, s1, s2, s3, s4, s5, s6⟩ := x_cells (a := ad.add (k * 7)) hcx
          have HXK := Lib.hid (fun (W : World) (h : Below w.heap.size w W) => HX.out W h k hlt hkm)
          have HZ := Lib.hid (HSZ.out k hlt)
          have HSK := Lib.hid (HSD.out k hlt)
          have HD : ls.drop k = ls[k] :: ls.drop (k + 1) := List.drop_eq_getElem_cons hlt
          have HF := Lib.hid (show foldB 2 (ls.map (evX ps)) 1 = foldB 2 (evX ps ls[k] :: (ls.drop (k + 1)).map (evX ps)) r by rw [hfo.out, HD]; rfl)
          clear hcx hbw hfo HD
          generalize ls[k] = y at *
          generalize ms[k] = my at *
          have X3 := Lib.hid (Blk.new wr (xC my) 25)
          have HB3 := Lib.hid (HBW.out.alloc HBW.out.size (.cells (xC my) 25))
          go_wp2_with ((with_reducible refine load_blk ?_ 25 (.tmp 14) ?_ X3.out ?_ _ Tryz.underlying25 ?_ ?_ ?_); (iterate 4 rfl); exact x_sz _)
          refine (veval N y HZ.out HSK.out my _ PA pn pc ps (HXK.out _ HB3.out) HPN.out (HPS.out _ HB3.out) (HMX.out _ HB3.out)).mono ?_
          rintro e w5 ⟨rfl, hb5⟩
          have HB5 := Lib.hid (below_then HB3.out hb5)
          clear s0 s1 s2 s3 s4 s5 s6 hb5 X3
          generalize evX ps y = v at *
          by_cases hv : v = 2
          · have hv1 : (v == 2) = true := by simpa using hv
            have HR := Lib.hid (show foldB 2 (ls.map (evX ps)) 1 = 2 by rw [HF.out]; unfold foldB; rw [if_pos hv])
            clear hv
            go_wp2_with fail
            go_ret
            exact ⟨by rw [HV.out, HR.out]; rfl, HB5.out⟩
          · have hv1 : (v == 2) = false := by simpa using hv
            have HR := Lib.hid (show foldB 2 (ls.map (evX ps)) 1 = foldB 2 ((ls.drop (k + 1)).map (evX ps)) (if v = 3 then 3 else r) by rw [HF.out]; exact if_neg hv)
            clear hv
            by_cases h3 : v = 3
            · have h31 : (v == 3) = true := by simpa using h3
              have HR3 := Lib.hid (show foldB 2 (ls.map (evX ps)) 1 = foldB 2 ((ls.drop (k + 1)).map (evX ps)) 3 by rw [HR.out, if_pos h3])
              clear h3
              go_wp2_with fail
              go_roundw
              case rel => exact ⟨k + 1, 3, by omega, by go_num, rfl, HR3, HB5.out⟩
              case measure => simp [intOf]; omega
            · have h31 : (v == 3) = false := by simpa using h3
              have HR3 := Lib.hid (show foldB 2 (ls.map (evX ps)) 1 = foldB 2 ((ls.drop (k + 1)).map (evX ps)) r by rw [HR.out, if_neg h3])
              clear h3
              go_wp2_with fail
              go_roundw
              case rel => exact ⟨k + 1, r, by omega, by go_num, rfl, HR3, HB5.out⟩
              case measure => simp [intOf]; omega
        · have hlt1 : ¬ (k : Int) < (ls.length : Int) := by omega
          have HR := Lib.hid (show foldB 2 (ls.map (evX ps)) 1 = r by rw [hfo.out, List.drop_eq_nil_of_le (by omega)]; rfl)
          clear hbw hfo
          go_wp2_with fail
          go_ret
          exact ⟨by rw [HV.out, HR.out]; rfl, HBW.out⟩
    · have HX := Lib.hid (show ∀ W : World, Below w.heap.size w W → ∀ k (h1 : k < ls.length) (h2 : k < ms.length), ExV W W.heap.size (ls[k]) (ms[k]) from fun W hW k h1 h2 => ((ih k h1 h2).keep (fun i hi => hW.block i hi)).more hW.size)
      have HAT := Lib.hid (show ∀ W : World, Below w.heap.size w W → AtE EX W w.heap.size A ms from fun W hW => hat.keep hW (Nat.le_refl _))
      have HSZ := Lib.hid (show ∀ k (h1 : k < ls.length), SizeOf.sizeOf ls[k] ≤ N from fun k h1 => by have := size_at (op := 2) (cm := cm) (kd := kd) (nu := nu) (nm := nm) (tx := tx) h1; omega)
      have HSD := Lib.hid (show ∀ k (h1 : k < ls.length), soundX ls[k] = true from fun k h1 => soundL_all hsl k h1)
      have HMS := Lib.hid hl
      have HPN := Lib.hid hpn
      have HPS := Lib.hid (show ∀ W : World, Below w.heap.size w W → PsAt W PA ps from fun W h => hp.below h)
      have HMX := Lib.hid (show ∀ W : World, Below w.heap.size w W → Mx W from fun W h => hM.below h)
      have XB := Lib.hid (Blk.new w (xC ⟨2, cm, kd, nu, nm, tx, A, ls.length, c⟩) 25)
      have HB := Lib.hid ((Below.refl w.heap.size w).alloc (Nat.le_refl _) (.cells (xC ⟨2, cm, kd, nu, nm, tx, A, ls.length, c⟩) 25))
      have HV := Lib.hid (show evX ps (.mk 2 cm kd nu nm tx ls) = foldB 1 (ls.map (evX ps)) 2 by rw [HE.out]; rfl)
      clear hat ih hs hl hN hsl hhd hp hM hpn HE
      have q0 := (xb_cells XB.out).1
      have q6 := (xb_cells XB.out).2.2.2.2.2.2
      go_enter Tryz.func34, Tryz.ntmps34
      go_wp2_with fail
      clear q0 q6
      go_loopw [12, 80] (fun v i wr => ∃ (k : Nat) (r : Int), k ≤ ls.length ∧ i = .int .i64 (k : Int) ∧ v = .int .i64 r ∧ Hid (foldB 1 (ls.map (evX ps)) 2 = foldB 1 ((ls.drop k).map (evX ps)) r) ∧ Below w.heap.size w wr) (fun _ i _ => ls.length - (intOf i).toNat)
      case atStart => exact ⟨0, 2, Nat.zero_le _, rfl, rfl, Lib.hid rfl, HB.out⟩
      case round =>
        obtain ⟨k, r, hk, rfl, rfl, hfo, hbw⟩ := hrel
        have HBW := Lib.hid hbw
        by_cases hlt : k < ls.length
        · have hlt1 : (k : Int) < (ls.length : Int) := by omega
          have hkm : k < ms.length := by rw [HMS.out]; exact hlt
          obtain ⟨ad, rfl, hab, hcx⟩ := HAT.out wr hbw k hkm
          obtain ⟨s0, s1, s2, s3, s4, s5, s6⟩ := x_cells (a := ad.add (k * 7)) hcx
          have HXK := Lib.hid (fun (W : World) (h : Below w.heap.size w W) => HX.out W h k hlt hkm)
          have HZ := Lib.hid (HSZ.out k hlt)
          have HSK := Lib.hid (HSD.out k hlt)
          have HD : ls.drop k = ls[k] :: ls.drop (k + 1) := List.drop_eq_getElem_cons hlt
          have HF := Lib.hid (show foldB 1 (ls.map (evX ps)) 2 = foldB 1 (evX ps ls[k] :: (ls.drop (k + 1)).map (evX ps)) r by rw [hfo.out, HD]; rfl)
          clear hcx hbw hfo HD
          generalize ls[k] = y at *
          generalize ms[k] = my at *
          have X3 := Lib.hid (Blk.new wr (xC my) 25)
          have HB3 := Lib.hid (HBW.out.alloc HBW.out.size (.cells (xC my) 25))
          go_wp2_with ((with_reducible refine load_blk ?_ 25 (.tmp 14) ?_ X3.out ?_ _ Tryz.underlying25 ?_ ?_ ?_); (iterate 4 rfl); exact x_sz _)
          refine (veval N y HZ.out HSK.out my _ PA pn pc ps (HXK.out _ HB3.out) HPN.out (HPS.out _ HB3.out) (HMX.out _ HB3.out)).mono ?_
          rintro e w5 ⟨rfl, hb5⟩
          have HB5 := Lib.hid (below_then HB3.out hb5)
          clear s0 s1 s2 s3 s4 s5 s6 hb5 X3
          generalize evX ps y = v at *
          by_cases hv : v = 1
          · have hv1 : (v == 1) = true := by simpa using hv
            have HR := Lib.hid (show foldB 1 (ls.map (evX ps)) 2 = 1 by rw [HF.out]; unfold foldB; rw [if_pos hv])
            clear hv
            go_wp2_with fail
            go_ret
            exact ⟨by rw [HV.out, HR.out]; rfl, HB5.out⟩
          · have hv1 : (v == 1) = false := by simpa using hv
            have HR := Lib.hid (show foldB 1 (ls.map (evX ps)) 2 = foldB 1 ((ls.drop (k + 1)).map (evX ps)) (if v = 3 then 3 else r) by rw [HF.out]; exact if_neg hv)
            clear hv
            by_cases h3 : v = 3
            · have h31 : (v == 3) = true := by simpa using h3
              have HR3 := Lib.hid (show foldB 1 (ls.map (evX ps)) 2 = foldB 1 ((ls.drop (k + 1)).map (evX ps)) 3 by rw [HR.out, if_pos h3])
              clear h3
              go_wp2_with fail
              go_roundw
              case rel => exact ⟨k + 1, 3, by omega, by go_num, rfl, HR3, HB5.out⟩
              case measure => simp [intOf]; omega
            · have h31 : (v == 3) = false := by simpa using h3
              have HR3 := Lib.hid (show foldB 1 (ls.map (evX ps)) 2 = foldB 1 ((ls.drop (k + 1)).map (evX ps)) r by rw [HR.out, if_neg h3])
              clear h3
              go_wp2_with fail
              go_roundw
              case rel => exact ⟨k + 1, r, by omega, by go_num, rfl, HR3, HB5.out⟩
              case measure => simp [intOf]; omega
        · have hlt1 : ¬ (k : Int) < (ls.length : Int) := by omega
          have HR := Lib.hid (show foldB 1 (ls.map (evX ps)) 2 = r by rw [hfo.out, List.drop_eq_nil_of_le (by omega)]; rfl)
          clear hbw hfo
          go_wp2_with fail
          go_ret
          exact ⟨by rw [HV.out, HR.out]; rfl, HBW.out⟩
    · have HX := Lib.hid (show ∀ W : World, Below w.heap.size w W → ∀ k (h1 : k < ls.length) (h2 : k < ms.length), ExV W W.heap.size (ls[k]) (ms[k]) from fun W hW k h1 h2 => ((ih k h1 h2).keep (fun i hi => hW.block i hi)).more hW.size)
      have HAT := Lib.hid (show ∀ W : World, Below w.heap.size w W → AtE EX W w.heap.size A ms from fun W hW => hat.keep hW (Nat.le_refl _))
      have HSZ := Lib.hid (show ∀ k (h1 : k < ls.length), SizeOf.sizeOf ls[k] ≤ N from fun k h1 => by have := size_at (op := 3) (cm := cm) (kd := kd) (nu := nu) (nm := nm) (tx := tx) h1; omega)
      have HSD := Lib.hid (show ∀ k (h1 : k < ls.length), soundX ls[k] = true from fun k h1 => soundL_all hsl k h1)
      have HMS := Lib.hid hl
      have HPN := Lib.hid hpn
      have HPS := Lib.hid (show ∀ W : World, Below w.heap.size w W → PsAt W PA ps from fun W h => hp.below h)
      have HMX := Lib.hid (show ∀ W : World, Below w.heap.size w W → Mx W from fun W h => hM.below h)
      have XB := Lib.hid (Blk.new w (xC ⟨3, cm, kd, nu, nm, tx, A, ls.length, c⟩) 25)
      have HB := Lib.hid ((Below.refl w.heap.size w).alloc (Nat.le_refl _) (.cells (xC ⟨3, cm, kd, nu, nm, tx, A, ls.length, c⟩) 25))
      have hl0 : 0 < ls.length := by omega
      have hm0 : 0 < ms.length := by rw [hl]; exact hl0
      have HV := Lib.hid (show evX ps (.mk 3 cm kd nu nm tx ls) = notV (evX ps ls[0]) by rw [HE.out]; show notV ((ls.map (evX ps)).headD 3) = _; cases ls with | nil => simp at hl0 | cons a r => rfl)
      obtain ⟨ad, eA, hab, hcx⟩ := HAT.out _ HB.out 0 hm0
      subst eA
      obtain ⟨s0, s1, s2, s3, s4, s5, s6⟩ := x_cells (a := ad) (m := ms[0]) hcx
      have HXK := Lib.hid (HX.out _ HB.out 0 hl0 hm0)
      have HZ := Lib.hid (HSZ.out 0 hl0)
      have HSK := Lib.hid (HSD.out 0 hl0)
      clear hat ih hs hl hN hsl hhd hp hM hpn HE hcx HX HAT HSZ HSD HMS
      have q0 := (xb_cells XB.out).1
      have q6 := (xb_cells XB.out).2.2.2.2.2.2
      have d0 : ¬ ls.length ≤ 0 := by omega
      have d1 : (0 : Int) < (ls.length : Int) := by omega
      generalize ls[0] = y at *
      generalize ms[0] = my at *
      clear h1
      go_enter Tryz.func34, Tryz.ntmps34
      go_wp2_with fail
      refine (veval N y HZ.out HSK.out my _ PA pn pc ps HXK.out HPN.out (HPS.out _ HB.out) (HMX.out _ HB.out)).mono ?_
      rintro e w5 ⟨rfl, hb5⟩
      have HB5 := Lib.hid (below_then HB.out hb5)
      clear s0 s1 s2 s3 s4 s5 s6 hb5 q0 q6
      generalize evX ps y = v at *
      have HNV := Lib.hid (show notV v = if v = 1 then 2 else if v = 2 then 1 else 3 from rfl)
      by_cases h1 : v = 1
      · have b1 : (v == 1) = true := by simpa using h1
        have HR := Lib.hid (show notV v = 2 by rw [HNV.out, if_pos h1])
        clear h1
        go_wp2_with fail
        go_ret
        exact ⟨by rw [HV.out, HR.out]; rfl, HB5.out⟩
      have b1 : (v == 1) = false := by simpa using h1
      by_cases h2 : v = 2
      · have b2 : (v == 2) = true := by simpa using h2
        have HR := Lib.hid (show notV v = 1 by rw [HNV.out, if_neg h1, if_pos h2])
        clear h1 h2
        go_wp2_with fail
        go_ret
        exact ⟨by rw [HV.out, HR.out]; rfl, HB5.out⟩
      have b2 : (v == 2) = false := by simpa using h2
      have HR := Lib.hid (show notV v = 3 by rw [HNV.out, if_neg h1, if_neg h2])
      clear h1 h2
      go_wp2_with fail
      go_ret
      exact ⟨by rw [HV.out, HR.out]; rfl, HB5.out⟩
    · rw [HE.out]
      exact veval4 ⟨4, cm, kd, nu, nm, tx, A, ls.length, c⟩ rfl hc PA pn pc ps hpn w hp hM
    · rw [HE.out]
      exact veval5 ⟨5, cm, kd, nu, nm, tx, A, ls.length, c⟩ rfl PA pn pc ps hpn w hp
end Go.Proofs.YtpldopoeopjcoaaGreatDoor
/- What format of package expression writes. -/
namespace Go.Proofs.YtpldopoeopjcoaaGreatDoor
open Go.RowKit
theorem Tryz.infoStr : (Tryz.prog.info? 9).map (fun i => (i.zero, i.size, i.bytes)) = some (some (.string ⟨#[]⟩), 1, 16) := by kernel_rfl
/-- Strings in memory. -/
def ES : El ByteArray where
  C s := [.string s]
  e := 9
  sl := 70
  sz := 1
  bs := 16
  len _ := rfl
  one x u hu := by simp at hu; rcases hu with rfl; rfl
  pos := by omega
  small := by omega
  hu := Tryz.underlying70
  info := by
    obtain ⟨i0, h1, h2, h3, h4⟩ := info_parts Tryz.infoStr
    exact ⟨i0, _, h1, h2, h3, h4, rfl⟩
def opX : Ex → Int | .mk op _ _ _ _ _ _ => op
theorem ExV.op {w : World} {B : Nat} {x : Ex} {m : Xe} (h : ExV w B x m) : m.op = opX x := by cases h; rfl
def wrapB (op : Int) (y : Ex) : Bool := opX y == 2 || (opX y == 1 && op != 2)
def wrapS (op : Int) (y : Ex) (s : ByteArray) : ByteArray := if wrapB op y = true then (⟨#[40]⟩ ++ s) ++ ⟨#[41]⟩ else s
def joinS (sep : ByteArray) (L : List ByteArray) : ByteArray := ⟨(Lib.join (L.map (·.data.toList)) sep.data.toList).toArray⟩
def fmtN (op cm kd nu : Int) (nm tx : ByteArray) (vs : List ByteArray) : ByteArray :=
  if op = 4 then (nm ++ sgN cm.toNat) ++ (if kd = 1 then numS nu else quoteS tx)
  else if op = 5 then ⟨#[104, 97, 115, 32]⟩ ++ nm
  else if op = 3 then ⟨#[110, 111, 116, 32]⟩ ++ vs.headD ⟨#[]⟩
  else if op = 1 then joinS ⟨#[32, 97, 110, 100, 32]⟩ vs
  else joinS ⟨#[32, 111, 114, 32]⟩ vs
/-- What format writes. -/
def fmtT : Ex → ByteArray
  | .mk op cm kd nu nm tx ls => fmtN op cm kd nu nm tx (ls.attach.map fun a => wrapS op a.1 (fmtT a.1))
termination_by x => SizeOf.sizeOf x
decreasing_by
  have := List.sizeOf_lt_of_mem a.2
  simp_wf
  omega
def kidT (op : Int) (y : Ex) : ByteArray := wrapS op y (fmtT y)
theorem fmtT_eq (op cm kd nu : Int) (nm tx : ByteArray) (ls : List Ex) : fmtT (.mk op cm kd nu nm tx ls) = fmtN op cm kd nu nm tx (ls.map (kidT op)) := by
  rw [fmtT]
  congr 1
  show ls.attach.map (fun a => kidT op a.1) = _
  simp
theorem numS_szX (n : Int) (h : I64 n) : (numS n).size ≤ 20 := by
  have e : (numS n).size = (Lib.itoa n).length := by show (Lib.itoa n).toArray.size = _; simp
  obtain ⟨h0, h1⟩ := h
  rw [e]; unfold Lib.itoa; split
  · have := dec_len n.natAbs (by omega)
    simp; omega
  · have := dec_len n.toNat (by omega)
    omega
theorem hex_lenX : ∀ l : List UInt8, (hexL l).length = 2 * l.length
  | [] => rfl
  | c :: r => by
    have h := hex_lenX r
    unfold hexL at h ⊢
    rw [List.flatMap_cons, List.length_append, h]
    show 2 + 2 * r.length = 2 * (r.length + 1)
    omega
theorem quoteS_szX (t : ByteArray) (h : t.size ≤ 128) : (quoteS t).size ≤ 258 := by
  have e : (quoteS t).size = (quoteL t.data.toList).length := by
    unfold quoteS; rw [if_neg (by omega)]; show (quoteL t.data.toList).toArray.size = _; simp
  have e2 : t.data.toList.length = t.size := Array.length_toList
  rw [e]
  unfold quoteL; split
  · simp; omega
  · simp [hex_lenX]; omega
theorem sgN_sz (k : Nat) : (sgN k).size ≤ 2 := by
  unfold sgN; split <;> decide
theorem nam_sz {s : ByteArray} (h : nam38 s = true) : s.size ≤ 16 := by
  unfold nam38 at h
  rw [Bool.and_eq_true] at h
  have h1 := h.1
  unfold nameBv at h1
  rw [← bszE]
  cases hl : s.data.toList with
  | nil => simp
  | cons a r =>
    rw [hl] at h1
    simp only [Bool.and_eq_true, decide_eq_true_eq] at h1
    exact h1.1.1
theorem head_nm {op cm kd nu : Int} {nm tx : ByteArray} {n : Nat} (h : headX op cm kd nu nm tx n = true) (ho : op = 4 ∨ op = 5) : nam38 nm = true := by
  unfold headX at h
  rcases ho with rfl | rfl
  · rw [if_neg (by decide), if_neg (by decide), if_pos rfl] at h
    simp only [Bool.and_eq_true] at h
    exact h.1.2
  · rw [if_neg (by decide), if_neg (by decide), if_neg (by decide), if_pos rfl] at h
    simp only [Bool.and_eq_true] at h
    exact h.1.1.1.1.2
theorem head_two {op cm kd nu : Int} {nm tx : ByteArray} {n : Nat} (h : headX op cm kd nu nm tx n = true) (ho : op = 1 ∨ op = 2) : 2 ≤ n := by
  unfold headX at h
  rw [if_pos ho] at h
  simp only [Bool.and_eq_true, decide_eq_true_eq] at h
  exact h.2
/-- The numbers are numbers of 64 bits. -/
inductive NumX : Ex → Prop
  | mk (op cm kd nu : Int) (nm tx : ByteArray) (ls : List Ex) (hn : I64 nu) (ih : ∀ y ∈ ls, NumX y) : NumX (.mk op cm kd nu nm tx ls)
theorem join_ge : ∀ {xs : List (List UInt8)} {x sep : List UInt8}, x ∈ xs → x.length ≤ (Lib.join xs sep).length
  | [], _, _, h => by cases h
  | [y], x, sep, h => by rw [List.mem_singleton.1 h, Lib.join_one]; exact Nat.le_refl _
  | y :: z :: r, x, sep, h => by
    have e : Lib.join (y :: z :: r) sep = y ++ sep ++ Lib.join (z :: r) sep := by simp [Lib.join, List.intercalate]
    rw [e]
    rcases List.mem_cons.1 h with h | h
    · subst h; simp only [List.length_append]; omega
    · have := join_ge (sep := sep) h; simp only [List.length_append]; omega
theorem wrap_ge (op : Int) (y : Ex) (s : ByteArray) : s.size ≤ (wrapS op y s).size := by
  unfold wrapS
  split
  · rw [ByteArray.size_append, ByteArray.size_append]; omega
  · exact Nat.le_refl _
theorem joinS_size (sep : ByteArray) (L : List ByteArray) : (joinS sep L).size = (Lib.join (L.map (·.data.toList)) sep.data.toList).length := by
  show (List.toArray _).size = _
  simp
/-- A part's text is no longer than the whole. -/
theorem kid_le {op cm kd nu : Int} {nm tx : ByteArray} {ls : List Ex} {y : Ex} (hy : y ∈ ls) (h3 : op = 3 → ls.length = 1) (h4 : ¬ op = 4) (h5 : ¬ op = 5) : (fmtT y).size ≤ (fmtT (.mk op cm kd nu nm tx ls)).size := by
  have h1 := wrap_ge op y (fmtT y)
  rw [fmtT_eq]
  unfold fmtN
  rw [if_neg h4, if_neg h5]
  have hj : ∀ sep, (kidT op y).size ≤ (joinS sep (ls.map (kidT op))).size := fun sep => by
    rw [joinS_size]
    have := join_ge (sep := sep.data.toList) (x := (kidT op y).data.toList) (xs := (ls.map (kidT op)).map (·.data.toList)) (List.mem_map.2 ⟨kidT op y, List.mem_map.2 ⟨y, hy, rfl⟩, rfl⟩)
    have e : (kidT op y).data.toList.length = (kidT op y).size := Array.length_toList
    omega
  by_cases h : op = 3
  · rw [if_pos h]
    obtain ⟨z, hz⟩ := List.length_eq_one_iff.1 (h3 h)
    subst hz
    rw [List.mem_singleton.1 hy]
    show _ ≤ (_ ++ kidT op z).size
    rw [ByteArray.size_append]
    have := wrap_ge op z (fmtT z)
    show _ ≤ _ + (wrapS op z (fmtT z)).size
    omega
  · rw [if_neg h]
    split
    · exact Nat.le_trans h1 (hj _)
    · exact Nat.le_trans h1 (hj _)
theorem vjoinE (L : List ByteArray) (sep : ByteArray) (w : World) {base : Nat} {A : Option Addr} {c n : Nat} (hn : n = L.length) (h0 : 1 ≤ L.length) (hlen : L.length ≤ 140737488355328) (hown : OwnE ES w base (.slice A n c) L) (hl : (joinS sep L).size ≤ 1000000) :
    Calls Tryz.prog 39 #[.slice A n c, .string sep] w fun e w' => e = .returned (.string (joinS sep L)) ∧ Below w.heap.size w w' := by
  subst hn
  have hcap := own_len hown
  rw [joinS_size] at hl
  rcases Joins.ownsRow_forms hown with ⟨e, e0⟩ | ⟨g, cap, e⟩
  · omega
  · injection e with e1 _ _
    subst e1
    have hg := (hown.lt g rfl)
    obtain ⟨A1, c1, e2, hat⟩ := hown.at
    injection e2 with e2 _ _
    subst e2
    have hj := Tryz.strings_Join g 0 c L sep w (fun j x hx => by
      obtain ⟨hj, hx⟩ := List.getElem?_eq_some_iff.1 hx
      obtain ⟨ad, e3, _, hc⟩ := hat j hj
      injection e3 with e3
      subst e3
      have := hc 0 (by show 0 < 1; omega)
      rw [← hx]
      have e4 : ((⟨g, 0, none⟩ : Addr).add (j * ES.sz)).add 0 = ⟨g, 0 + j, none⟩ := by
        rw [show j * ES.sz = j from Nat.mul_one j]
        unfold Addr.add
        by_cases h : j = 0
        · subst h; rfl
        · simp [h]
      rw [e4] at this
      exact this) hg hlen hcap (by omega)
    exact hj
end Go.Proofs.YtpldopoeopjcoaaGreatDoor

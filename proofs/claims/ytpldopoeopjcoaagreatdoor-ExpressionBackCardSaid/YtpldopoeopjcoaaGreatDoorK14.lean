/- Texts of one proof, laid together. -/
import Derived.Test.YtpldopoeopjcoaaGreatDoorK13
import Derived.Test.YtpldopoeopjcoaaGreatDoorK04
import Derived.Test.YtpldopoeopjcoaaGreatDoorK09
/- sound of package expression, by the size of the tree. -/
namespace Go.Proofs.YtpldopoeopjcoaaGreatDoor
open Go.RowKit
def innB (cm kd nu : Int) (nm tx : ByteArray) : Bool := decide (cm = 0) && decide (kd = 0) && decide (nu = 0) && nm.toList.isEmpty && tx.toList.isEmpty
def headX (op cm kd nu : Int) (nm tx : ByteArray) (n : Nat) : Bool :=
  if op = 1 ∨ op = 2 then innB cm kd nu nm tx && decide (2 ≤ n)
  else if op = 3 then innB cm kd nu nm tx && decide (n = 1)
  else if op = 4 then decide (n = 0) && nam38 nm && cmpsB cm kd nu tx
  else if op = 5 then decide (n = 0) && nam38 nm && decide (cm = 0) && decide (kd = 0) && decide (nu = 0) && tx.toList.isEmpty
  else false
/-- What sound says of expressions. -/
def soundL : List Ex → Bool
  | [] => true
  | (.mk op cm kd nu nm tx ls) :: r => (soundL ls && headX op cm kd nu nm tx ls.length) && soundL r
termination_by l => SizeOf.sizeOf l
decreasing_by all_goals (simp_wf; omega)
def soundX (x : Ex) : Bool := soundL [x]
theorem soundX_eq (op cm kd nu : Int) (nm tx : ByteArray) (ls : List Ex) : soundX (.mk op cm kd nu nm tx ls) = (soundL ls && headX op cm kd nu nm tx ls.length) := by
  unfold soundX
  rw [soundL]
  simp [soundL]
theorem soundL_cons (x : Ex) (r : List Ex) : soundL (x :: r) = (soundX x && soundL r) := by
  cases x with
  | mk op cm kd nu nm tx ls => rw [soundX_eq, soundL]
theorem soundL_take (ls : List Ex) (k : Nat) (hk : k < ls.length) (h : soundL (ls.take k) = true) (hx : soundX ls[k] = true) : soundL (ls.take (k + 1)) = true := by
  induction ls generalizing k with
  | nil => simp at hk
  | cons a r ih =>
    cases k with
    | zero => simp at hx ⊢; rw [soundL_cons, hx]; rw [soundL]; rfl
    | succ k =>
      rw [List.take_succ_cons, soundL_cons] at h ⊢
      simp only [Bool.and_eq_true] at h ⊢
      exact ⟨h.1, ih k (by simp at hk; omega) h.2 (by simpa using hx)⟩
theorem soundL_no (ls : List Ex) (k : Nat) (hk : k < ls.length) (hx : soundX ls[k] = false) : soundL ls = false := by
  induction ls generalizing k with
  | nil => simp at hk
  | cons a r ih =>
    rw [soundL_cons]
    cases k with
    | zero => simp at hx; rw [hx]; rfl
    | succ k => rw [ih k (by simp at hk; omega) (by simpa using hx)]; simp
theorem inn_no {cm kd nu : Int} {nm tx : ByteArray} (h : cm ≠ 0 ∨ kd ≠ 0 ∨ nu ≠ 0 ∨ nm.toList.isEmpty = false ∨ tx.toList.isEmpty = false) : innB cm kd nu nm tx = false := by
  unfold innB
  rcases h with h | h | h | h | h <;> simp [h]
set_option maxRecDepth 100000 in
set_option maxHeartbeats 8000000 in
theorem vsound : ∀ (N : Nat) (x : Ex), SizeOf.sizeOf x ≤ N → ∀ (m : Xe) (w : World), ExV w w.heap.size x m →
    Calls Tryz.prog 24 #[.agg (xC m)] w fun e w' => e = .returned (.bool (soundX x)) ∧ Below w.heap.size w w'
  | 0, .mk _ _ _ _ _ _ _, hN => by simp at hN
  | N + 1, x, hN => fun m w hx => by
    cases hx with
    | mk op cm kd nu nm tx ls A c ms hl hn hs hat ih =>
    have HX := Lib.hid (show ∀ W : World, Below w.heap.size w W → ∀ k (h1 : k < ls.length) (h2 : k < ms.length), ExV W W.heap.size (ls[k]) (ms[k]) from fun W hW k h1 h2 => ((ih k h1 h2).keep (fun i hi => hW.block i hi)).more hW.size)
    have HAT := Lib.hid (show ∀ W : World, Below w.heap.size w W → AtE EX W w.heap.size A ms from fun W hW => hat.keep hW (Nat.le_refl _))
    have HSZ := Lib.hid (show ∀ k (h1 : k < ls.length), SizeOf.sizeOf ls[k] ≤ N from fun k h1 => by have := size_at (op := op) (cm := cm) (kd := kd) (nu := nu) (nm := nm) (tx := tx) h1; omega)
    have HE := Lib.hid (soundX_eq op cm kd nu nm tx ls)
    have HMS := Lib.hid hl
    have HNM := Lib.hid hs.1
    clear hat ih hs hl hN
    have XB := Lib.hid (Blk.new w (xC ⟨op, cm, kd, nu, nm, tx, A, ls.length, c⟩) 25)
    have HB := Lib.hid ((Below.refl w.heap.size w).alloc (Nat.le_refl _) (.cells (xC ⟨op, cm, kd, nu, nm, tx, A, ls.length, c⟩) 25))
    go_enter Tryz.func24, Tryz.ntmps24
    go_wp2_with fail
    go_loopw [9] (fun i wr => ∃ k : Nat, k ≤ ls.length ∧ i = .int .i64 k ∧ Below w.heap.size w wr ∧ Blk wr w.heap.size 25 (xC ⟨op, cm, kd, nu, nm, tx, A, ls.length, c⟩) ∧ Hid (soundL (ls.take k) = true)) (fun i _ => ls.length - (intOf i).toNat)
    case atStart => exact ⟨0, Nat.zero_le _, rfl, HB.out, XB.out, Lib.hid (by rw [List.take_zero, soundL])⟩
    case round =>
      obtain ⟨k, hk, rfl, hbw, hxb, hsm⟩ := hrel
      have HBW := Lib.hid hbw
      have HXB := Lib.hid hxb
      by_cases hlt : k < ls.length
      · have hlt1 : (k : Int) < (ls.length : Int) := by omega
        have hkm : k < ms.length := by rw [HMS.out]; exact hlt
        obtain ⟨ad, rfl, hab, hcx⟩ := HAT.out wr hbw k hkm
        obtain ⟨s0, s1, s2, s3, s4, s5, s6⟩ := x_cells (a := ad.add (k * 7)) hcx
        have HXK := Lib.hid (fun (W : World) (h : Below w.heap.size w W) => HX.out W h k hlt hkm)
        have HT := Lib.hid (soundL_take ls k hlt hsm.out)
        have HNO := Lib.hid (soundL_no ls k hlt)
        have HZ := Lib.hid (HSZ.out k hlt)
        clear hcx hbw hxb hsm
        generalize ls[k] = y at *
        generalize ms[k] = my at *
        have X3 := Lib.hid (Blk.new wr (xC my) 25)
        have HB3 := Lib.hid (HBW.out.alloc HBW.out.size (.cells (xC my) 25))
        go_wp2_with ((with_reducible refine load_blk ?_ 25 (.tmp 4) ?_ X3.out ?_ _ Tryz.underlying25 ?_ ?_ ?_); (iterate 4 rfl); exact x_sz _)
        refine (vsound N y HZ.out my _ (HXK.out _ HB3.out)).mono ?_
        rintro e w5 ⟨rfl, hb5⟩
        have HB5 := Lib.hid (below_then HB3.out hb5)
        have HX5 := Lib.hid ((HXB.out.alloc (.cells (xC my) 25)).below hb5)
        clear s0 s1 s2 s3 s4 s5 s6 hb5 X3
        cases hb : soundX y
        · have HF := Lib.hid (HNO.out hb)
          go_wp2_with fail
          go_ret
          exact ⟨retB (by rw [HE.out, HF.out]; rfl), HB5.out⟩
        · have HF := Lib.hid (HT.out hb)
          go_wp2_with fail
          go_roundw
          case rel => exact ⟨k + 1, by omega, by go_num, HB5.out, HX5.out, HF⟩
          case measure => simp [intOf]; omega
      · have hlt1 : ¬ (k : Int) < (ls.length : Int) := by omega
        have HF := Lib.hid (show soundX (.mk op cm kd nu nm tx ls) = headX op cm kd nu nm tx ls.length by rw [HE.out, ← List.take_of_length_le (show ls.length ≤ k by omega), hsm.out]; simp [List.take_of_length_le (show ls.length ≤ k by omega)])
        obtain ⟨q0, q1, q2, q3, q4, q5, q6⟩ := xb_cells hxb
        clear hbw hxb hsm HE XB HB HX HAT HSZ HMS
        go_upto_region 7 with (fail)
        go_cut [5] (fun u wx => u = .bool (innB cm kd nu nm tx) ∧ wx = wr)
        case first =>
          by_cases h0 : cm = 0
          case neg =>
            have b : (cm == 0) = false := by simpa using h0
            have HI := Lib.hid (inn_no (cm := cm) (kd := kd) (nu := nu) (nm := nm) (tx := tx) (by simp [h0]))
            clear h0
            go_wp2_with fail
            go_meet
            exact ⟨by rw [HI.out], rfl⟩
          case pos =>
          have bh0 : (cm == 0) = true := by simpa using h0
          have Bh0 := Lib.hid h0
          clear h0
          by_cases h1 : kd = 0
          case neg =>
            have b : (kd == 0) = false := by simpa using h1
            have HI := Lib.hid (inn_no (cm := cm) (kd := kd) (nu := nu) (nm := nm) (tx := tx) (by simp [h1]))
            clear h1
            go_wp2_with fail
            go_meet
            exact ⟨by rw [HI.out], rfl⟩
          case pos =>
          have bh1 : (kd == 0) = true := by simpa using h1
          have Bh1 := Lib.hid h1
          clear h1
          by_cases h2 : nu = 0
          case neg =>
            have b : (nu == 0) = false := by simpa using h2
            have HI := Lib.hid (inn_no (cm := cm) (kd := kd) (nu := nu) (nm := nm) (tx := tx) (by simp [h2]))
            clear h2
            go_wp2_with fail
            go_meet
            exact ⟨by rw [HI.out], rfl⟩
          case pos =>
          have bh2 : (nu == 0) = true := by simpa using h2
          have Bh2 := Lib.hid h2
          clear h2
          cases h3 : nm.toList.isEmpty
          case false =>
            have HI := Lib.hid (inn_no (cm := cm) (kd := kd) (nu := nu) (nm := nm) (tx := tx) (by simp [h3]))
            go_wp2_with fail
            go_meet
            exact ⟨by rw [HI.out], rfl⟩
          case true =>
          cases h4 : tx.toList.isEmpty
          case false =>
            have HI := Lib.hid (inn_no (cm := cm) (kd := kd) (nu := nu) (nm := nm) (tx := tx) (by simp [h4]))
            go_wp2_with fail
            go_meet
            exact ⟨by rw [HI.out], rfl⟩
          case true =>
          have HI := Lib.hid (show innB cm kd nu nm tx = true by unfold innB; simp [Bh0.out, Bh1.out, Bh2.out, h3, h4])
          go_wp2_with fail
          go_meet
          exact ⟨by rw [HI.out], rfl⟩
        case rest =>
        obtain ⟨e5, e6⟩ := hcut
        subst e5 e6
        generalize hbi : innB cm kd nu nm tx = bi at *
        have HBI := Lib.hid hbi
        clear hbi
        by_cases o1 : op = 1
        case pos =>
          subst o1
          cases bi
          case false =>
            go_wp2_with fail
            go_ret
            exact ⟨retB (by rw [HF.out]; unfold headX; simp [HBI.out]), HBW.out⟩
          case true =>
            by_cases n2 : 2 ≤ ls.length
            case pos =>
              have Fn2 := Lib.hid n2
              have n2' : (2 : Int) ≤ (ls.length : Int) := by omega
              clear n2
              go_wp2_with fail
              go_ret
              exact ⟨retB (by rw [HF.out]; unfold headX; simp [HBI.out, Fn2.out]), HBW.out⟩
            case neg =>
              have Fn2 := Lib.hid n2
              have n2' : ¬ (2 : Int) ≤ (ls.length : Int) := by omega
              clear n2
              go_wp2_with fail
              go_ret
              exact ⟨retB (by rw [HF.out]; unfold headX; simp [HBI.out, Fn2.out]), HBW.out⟩
        case neg =>
          have bo1 : (op == 1) = false := by simpa using o1
          have Fo1 := Lib.hid o1
          clear o1
          by_cases o2 : op = 2
          case pos =>
            subst o2
            cases bi
            case false =>
              go_wp2_with fail
              go_ret
              exact ⟨retB (by rw [HF.out]; unfold headX; simp [HBI.out]), HBW.out⟩
            case true =>
              by_cases n2 : 2 ≤ ls.length
              case pos =>
                have Fn2 := Lib.hid n2
                have n2' : (2 : Int) ≤ (ls.length : Int) := by omega
                clear n2
                go_wp2_with fail
                go_ret
                exact ⟨retB (by rw [HF.out]; unfold headX; simp [HBI.out, Fn2.out]), HBW.out⟩
              case neg =>
                have Fn2 := Lib.hid n2
                have n2' : ¬ (2 : Int) ≤ (ls.length : Int) := by omega
                clear n2
                go_wp2_with fail
                go_ret
                exact ⟨retB (by rw [HF.out]; unfold headX; simp [HBI.out, Fn2.out]), HBW.out⟩
          case neg =>
            have bo2 : (op == 2) = false := by simpa using o2
            have Fo2 := Lib.hid o2
            clear o2
            by_cases o3 : op = 3
            case pos =>
              subst o3
              cases bi
              case false =>
                go_wp2_with fail
                go_ret
                exact ⟨retB (by rw [HF.out]; unfold headX; simp [HBI.out]), HBW.out⟩
              case true =>
                by_cases n1 : ls.length = 1
                case pos =>
                  have Fn1 := Lib.hid n1
                  have n1' : ((ls.length : Int) == 1) = true := by simp [n1]
                  clear n1
                  go_wp2_with fail
                  go_ret
                  exact ⟨retB (by rw [HF.out]; unfold headX; simp [HBI.out, Fn1.out]), HBW.out⟩
                case neg =>
                  have Fn1 := Lib.hid n1
                  have n1' : ((ls.length : Int) == 1) = false := by simp; omega
                  clear n1
                  go_wp2_with fail
                  go_ret
                  exact ⟨retB (by rw [HF.out]; unfold headX; simp [HBI.out, Fn1.out]), HBW.out⟩
            case neg =>
              have bo3 : (op == 3) = false := by simpa using o3
              have Fo3 := Lib.hid o3
              clear o3
              by_cases o4 : op = 4
              case pos =>
                subst o4
                by_cases n0 : ls.length = 0
                case pos =>
                  have Fn0 := Lib.hid n0
                  have n0' : ((ls.length : Int) == 0) = true := by simp [n0]
                  clear n0
                  go_wp2_with fail
                  refine (vname38 nm HNM.out _).mono ?_
                  rintro e w6 ⟨rfl, rfl⟩
                  cases hnm : nam38 nm
                  case false =>
                    go_wp2_with fail
                    go_ret
                    exact ⟨retB (by rw [HF.out]; unfold headX; simp [hnm, Fn0.out]), HBW.out⟩
                  case true =>
                    go_wp2_with ((with_reducible refine load_blk ?_ 25 (.tmp 1) ?_ HXB.out ?_ _ Tryz.underlying25 ?_ ?_ ?_); (iterate 4 rfl); exact x_sz _)
                    refine (vcompares ⟨4, cm, kd, nu, nm, tx, A, ls.length, c⟩ _).mono ?_
                    rintro e w7 ⟨rfl, hb7⟩
                    have HB7 := Lib.hid (below_then HBW.out hb7)
                    clear hb7
                    go_wp2_with fail
                    go_ret
                    exact ⟨retB (by rw [HF.out]; unfold headX; simp [hnm, Fn0.out]), HB7.out⟩
                case neg =>
                  have Fn0 := Lib.hid n0
                  have n0' : ((ls.length : Int) == 0) = false := by simp only [beq_eq_false_iff_ne]; omega
                  clear n0
                  go_wp2_with fail
                  go_ret
                  exact ⟨retB (by rw [HF.out]; unfold headX; simp [Fn0.out]), HBW.out⟩
              case neg =>
                have bo4 : (op == 4) = false := by simpa using o4
                have Fo4 := Lib.hid o4
                clear o4
                by_cases o5 : op = 5
                case pos =>
                  subst o5
                  by_cases n0 : ls.length = 0
                  case pos =>
                    have Fn0 := Lib.hid n0
                    have n0' : ((ls.length : Int) == 0) = true := by simp [n0]
                    clear n0
                    go_wp2_with fail
                    refine (vname38 nm HNM.out _).mono ?_
                    rintro e w6 ⟨rfl, rfl⟩
                    cases hnm : nam38 nm
                    case false =>
                      go_wp2_with fail
                      go_ret
                      exact ⟨retB (by rw [HF.out]; unfold headX; simp [hnm, Fn0.out]), HBW.out⟩
                    case true =>
                      by_cases zcm : cm = 0
                      case pos =>
                        have Fzcm := Lib.hid zcm
                        have bzcm : (cm == 0) = true := by simpa using zcm
                        clear zcm
                        by_cases zkd : kd = 0
                        case pos =>
                          have Fzkd := Lib.hid zkd
                          have bzkd : (kd == 0) = true := by simpa using zkd
                          clear zkd
                          by_cases znu : nu = 0
                          case pos =>
                            have Fznu := Lib.hid znu
                            have bznu : (nu == 0) = true := by simpa using znu
                            clear znu
                            cases ht : tx.toList.isEmpty
                            all_goals
                              go_wp2_with fail
                              go_ret
                              exact ⟨retB (by rw [HF.out]; unfold headX; simp [ht, Fznu.out, Fzkd.out, Fzcm.out, hnm, Fn0.out]), HBW.out⟩
                          case neg =>
                            have Fznu := Lib.hid znu
                            have bznu : (nu == 0) = false := by simpa using znu
                            clear znu
                            go_wp2_with fail
                            go_ret
                            exact ⟨retB (by rw [HF.out]; unfold headX; simp [Fznu.out, Fzkd.out, Fzcm.out, hnm, Fn0.out]), HBW.out⟩
                        case neg =>
                          have Fzkd := Lib.hid zkd
                          have bzkd : (kd == 0) = false := by simpa using zkd
                          clear zkd
                          go_wp2_with fail
                          go_ret
                          exact ⟨retB (by rw [HF.out]; unfold headX; simp [Fzkd.out, Fzcm.out, hnm, Fn0.out]), HBW.out⟩
                      case neg =>
                        have Fzcm := Lib.hid zcm
                        have bzcm : (cm == 0) = false := by simpa using zcm
                        clear zcm
                        go_wp2_with fail
                        go_ret
                        exact ⟨retB (by rw [HF.out]; unfold headX; simp [Fzcm.out, hnm, Fn0.out]), HBW.out⟩
                  case neg =>
                    have Fn0 := Lib.hid n0
                    have n0' : ((ls.length : Int) == 0) = false := by simp only [beq_eq_false_iff_ne]; omega
                    clear n0
                    go_wp2_with fail
                    go_ret
                    exact ⟨retB (by rw [HF.out]; unfold headX; simp [Fn0.out]), HBW.out⟩
                case neg =>
                  have bo5 : (op == 5) = false := by simpa using o5
                  have Fo5 := Lib.hid o5
                  clear o5
                  go_wp2_with fail
                  go_ret
                  exact ⟨retB (by rw [HF.out]; unfold headX; simp [Fo1.out, Fo2.out, Fo3.out, Fo4.out, Fo5.out]), HBW.out⟩
end Go.Proofs.YtpldopoeopjcoaaGreatDoor
/- Check of package expression. -/
namespace Go.Proofs.YtpldopoeopjcoaaGreatDoor
open Go.RowKit
/-- What Check says. -/
def checkX (x : Ex) : Int := if (smallX x 6 24).1 = true then (if soundX x = true then 0 else 383) else 382
theorem vcheckX (x : Ex) (m : Xe) (w : World) (hx : ExV w w.heap.size x m) :
    Calls Tryz.prog 9 #[.agg (xC m)] w fun e w' => e = .returned (.int .i64 (checkX x)) ∧ Below w.heap.size w w' := by
  have X0 := Lib.hid (Blk.new w (xC m) 25)
  have X1 := Lib.hid (X0.out.alloc (.cells #[.int .i64 24] 3))
  have L1 : LfB ((w.alloc (.cells (xC m) 25)).alloc (.cells #[.int .i64 24] 3)) (w.heap.size + 1) 24 := by
    have := Blk.new (w.alloc (.cells (xC m) 25)) #[.int .i64 24] 3
    simpa using this
  have hb0 : Below w.heap.size w ((w.alloc (.cells (xC m) 25)).alloc (.cells #[.int .i64 24] 3)) := ((Below.refl _ _).alloc (Nat.le_refl _) _).alloc (by simp) _
  have HV := Lib.hid (fun (W : World) (h : Below w.heap.size w W) => hx.keep (w' := W) (fun i hi => h.block i hi))
  have HS := Lib.hid (vsmall (SizeOf.sizeOf x) x (Nat.le_refl _) m _ w.heap.size (w.heap.size + 1) 6 24 (HV.out _ hb0) L1 (by omega) (by omega) (by omega) (by omega) (by omega))
  have HB0 := Lib.hid hb0
  have HC := Lib.hid (show checkX x = if (smallX x 6 24).1 = true then (if soundX x = true then 0 else 383) else 382 from rfl)
  clear L1 hb0 hx
  go_enter Tryz.func9, Tryz.ntmps9
  go_wp2_with ((with_reducible refine load_blk ?_ 25 (.tmp 1) ?_ X1.out ?_ _ Tryz.underlying25 ?_ ?_ ?_); (iterate 4 rfl); exact x_sz _)
  refine HS.out.mono ?_
  rintro e w1 ⟨rfl, hl, hg, _⟩
  have HB1 := Lib.hid (HB0.out.grown hg HB0.out.size (fun k e => by injection e with e; omega))
  have X2 := Lib.hid (X1.out.grown hg (fun e => by injection e with e; omega))
  clear hl hg HS
  cases hb : (smallX x 6 24).1
  · have HF := Lib.hid (show checkX x = 382 by rw [HC.out, hb]; rfl)
    go_wp2_with fail
    go_ret
    exact ⟨by rw [HF.out]; rfl, HB1.out⟩
  · go_wp2_with ((with_reducible refine load_blk ?_ 25 (.tmp 1) ?_ X2.out ?_ _ Tryz.underlying25 ?_ ?_ ?_); (iterate 4 rfl); exact x_sz _)
    refine (vsound (SizeOf.sizeOf x) x (Nat.le_refl _) m _ ((HV.out _ HB1.out).more HB1.out.size)).mono ?_
    rintro e w2 ⟨rfl, hb2⟩
    have HB2 := Lib.hid (below_then HB1.out hb2)
    clear hb2
    cases hs : soundX x
    · have HF := Lib.hid (show checkX x = 383 by rw [HC.out, hb, hs]; rfl)
      go_wp2_with fail
      go_ret
      exact ⟨by rw [HF.out]; rfl, HB2.out⟩
    · have HF := Lib.hid (show checkX x = 0 by rw [HC.out, hb, hs]; rfl)
      go_wp2_with fail
      go_ret
      exact ⟨by rw [HF.out]; rfl, HB2.out⟩
theorem vtruth (b : Bool) (w : World) : Calls Tryz.prog 51 #[.bool b] w fun e w' => e = .returned (.int .i64 (if b = true then 1 else 2)) ∧ w = w' := by
  cases b
  all_goals
    go_enter Tryz.func51, Tryz.ntmps51
    go_wp2_with fail
    go_ret
    exact ⟨rfl, rfl⟩
end Go.Proofs.YtpldopoeopjcoaaGreatDoor
/- Parse of package expression, any text. -/
namespace Go.Proofs.YtpldopoeopjcoaaGreatDoor
open Go.RowKit
/-- The expression that Parse returns, if there is one. -/
def parseC (s : ByteArray) : Option Ex :=
  if s.size ≤ 512 then (match parseE s.data.toList with | some x => if checkX x = 0 then some x else none | none => none) else none
def PaPost (o : Option Ex) (w : World) (e : Ending) (w' : World) : Prop :=
  match o with
  | some x => ∃ m, e = .returned (.tuple #[.agg (xC m), .int .i64 0]) ∧ ExA w' (Frs w w') x m ∧ Below w.heap.size w w'
  | none => ∃ er : Int, er ≠ 0 ∧ e = .returned (.tuple #[.agg xZ, .int .i64 er]) ∧ Below w.heap.size w w'
theorem x_ret2 {fn : Func} (h : fn.results = #[.cell 2 25, .tmp 3]) (tmps : Array Value) (w : World) (g : Nat) (m : Xe) (hp : tmps.getD 2 undef = .pointer (some ⟨g, 0, none⟩)) (hg : Blk w g 25 (xC m)) :
    (results fn tmps).run Tryz.prog w = .ok (.tuple #[.agg (xC m), tmps.getD 3 undef]) w := by
  have hp' : tmps[2]?.getD undef = .pointer (some ⟨g, 0, none⟩) := by simpa using hp
  simp [results, h, hp', asAddr, run_loadVar_row w g 25 25 (xC m) (0, 0) _ hg Tryz.underlying25 rfl (x_sz m)]
attribute [local irreducible] parseE checkX
set_option maxRecDepth 100000 in
set_option maxHeartbeats 8000000 in
theorem vParse38 (s : ByteArray) (hm : s.size ≤ maxLen) (w : World) (hE : Env w) :
    Calls Tryz.prog 10 #[.string s] w (PaPost (parseC s) w) := by
  unfold maxLen at hm
  have R0 := Lib.hid (Blk.new w xZ 25)
  have B0 := Lib.hid ((Below.refl w.heap.size w).alloc (Nat.le_refl _) (.cells xZ 25))
  have HE := Lib.hid (hE.below B0.out)
  have HSZ := Lib.hid (show (w.alloc (.cells xZ 25)).heap.size = w.heap.size + 1 by simp)
  clear hE
  by_cases hs : s.size ≤ 512
  case neg =>
    have HN := Lib.hid (show parseC s = none by unfold parseC; rw [if_neg hs])
    have h1 : (512 : Int) < (s.size : Int) := by omega
    clear hs
    go_enter Tryz.func10, Tryz.ntmps10
    go_wp2_with ((with_reducible refine store_blk ?_ 25 (.tmp 2) (.tmp 9) ?_ R0.out xZ ?_ ?_ ?_ ?_ ?_ ?_); (iterate 4 rfl); (exact x_sz zX); rfl; (exact x_one zX))
    refine bodyPost_ret (x_ret2 (fn := Tryz.f10) rfl _ _ w.heap.size zX rfl (Blk.row R0.out _)) rfl ?_
    rw [HN.out]
    exact ⟨380, by decide, rfl, below_row B0.out (Nat.le_refl _) _⟩
  case pos =>
  have HPC := Lib.hid (show parseC s = match parseE s.data.toList with | some x => if checkX x = 0 then some x else none | none => none by unfold parseC; rw [if_pos hs])
  have HP := Lib.hid (vparse38 s (by omega) _ HE.out)
  have h1 : ¬ (512 : Int) < (s.size : Int) := by omega
  clear hs hm
  go_enter Tryz.func10, Tryz.ntmps10
  go_wp2_with fail
  refine HP.out.mono ?_
  intro e w1 hp
  cases ho : parseE s.data.toList with
  | none =>
    rw [ho] at hp
    obtain ⟨rfl, hb⟩ := hp
    have HN := Lib.hid (show parseC s = none by rw [HPC.out, ho])
    have R1 := Lib.hid ((R0.out.below hb).alloc (.cells xZ 25))
    have B1 := Lib.hid ((B0.out.trans (hb.mono B0.out.size)).alloc (B0.out.trans (hb.mono B0.out.size)).size (.cells xZ 25))
    clear hb ho HPC HP
    go_wp2_with ((with_reducible refine store_blk ?_ 25 (.tmp 2) (.tmp 21) ?_ R1.out xZ ?_ ?_ ?_ ?_ ?_ ?_); (iterate 4 rfl); (exact x_sz zX); rfl; (exact x_one zX))
    refine bodyPost_ret (x_ret2 (fn := Tryz.f10) rfl _ _ w.heap.size zX rfl (Blk.row R1.out _)) rfl ?_
    rw [HN.out]
    exact ⟨381, by decide, rfl, below_row B1.out (Nat.le_refl _) _⟩
  | some x =>
    rw [ho] at hp
    obtain ⟨m, rfl, hx, hb⟩ := hp
    have HPC := Lib.hid (show parseC s = if checkX x = 0 then some x else none by rw [HPC.out, ho])
    have R1 := Lib.hid ((R0.out.below hb).alloc (.cells (xC m) 25))
    have X1 := Lib.hid (Blk.new w1 (xC m) 25)
    have B1 := Lib.hid ((B0.out.trans (hb.mono B0.out.size)).alloc (B0.out.trans (hb.mono B0.out.size)).size (.cells (xC m) 25))
    have XA := Lib.hid (show ExA (w1.alloc (.cells (xC m) 25)) (fun i => w.heap.size < i ∧ i < w1.heap.size) x m from hx.keep (fun i hi => ((Below.refl w1.heap.size w1).alloc (Nat.le_refl _) _).block i hi.2) (fun i hi => ⟨by have := hi.1; have := HSZ.out; omega, hi.2⟩))
    have HCK := Lib.hid (vcheckX x m _ (XA.out.v (B := (w1.alloc (.cells (xC m) 25)).heap.size) (fun i hi => by have := hi.2; simp; omega)))
    clear hb ho hx HP
    go_wp2_with ((with_reducible refine load_blk ?_ 25 (.tmp 4) ?_ X1.out ?_ _ Tryz.underlying25 ?_ ?_ ?_); (iterate 4 rfl); exact x_sz _)
    refine HCK.out.mono ?_
    rintro e w2 ⟨rfl, hb2⟩
    have R2 := Lib.hid (R1.out.below hb2)
    have X2 := Lib.hid (X1.out.below hb2)
    have B2 := Lib.hid (B1.out.trans (hb2.mono B1.out.size))
    have XB := Lib.hid (show ExA w2 (fun i => w.heap.size < i ∧ i < w2.heap.size) x m from XA.out.keep (fun i hi => hb2.block i (by have := hi.2; simp; omega)) (fun i hi => ⟨hi.1, by have := hi.2; have := hb2.size; simp at this; omega⟩))
    clear hb2 R1 X1 B1 XA HCK
    by_cases hc : checkX x = 0
    · have HS := Lib.hid (show parseC s = some x by rw [HPC.out, if_pos hc])
      rw [hc]
      clear hc
      go_wp2_with (first | ((with_reducible refine load_blk ?_ 25 (.tmp 4) ?_ X2.out ?_ _ Tryz.underlying25 ?_ ?_ ?_); (iterate 4 rfl); exact x_sz _) | ((with_reducible refine store_blk ?_ 25 (.tmp 2) (.tmp 23) ?_ R2.out (xC m) ?_ ?_ ?_ ?_ ?_ ?_); (iterate 4 rfl); (exact x_sz _); rfl; (exact x_one _)))
      refine bodyPost_ret (x_ret2 (fn := Tryz.f10) rfl _ _ w.heap.size m rfl (Blk.row R2.out _)) rfl ?_
      rw [HS.out]
      exact ⟨m, rfl, XB.out.keep (fun i hi => setRow_other _ _ _ _ (by have := hi.1; omega)) (fun i hi => ⟨by have := hi.1; omega, by rw [setRow_size]; exact hi.2⟩), below_row B2.out (Nat.le_refl _) _⟩
    · have HS := Lib.hid (show parseC s = none by rw [HPC.out, if_neg hc])
      have HC := Lib.hid hc
      have hc1 : (checkX x != 0) = true := by simpa using hc
      have hc2 : (checkX x == 0) = false := by simpa using hc
      clear hc
      generalize checkX x = q at *
      go_wp2_with ((with_reducible refine store_blk ?_ 25 (.tmp 2) (.tmp 21) ?_ R2.out xZ ?_ ?_ ?_ ?_ ?_ ?_); (iterate 4 rfl); (exact x_sz zX); rfl; (exact x_one zX))
      refine bodyPost_ret (x_ret2 (fn := Tryz.f10) rfl _ _ w.heap.size zX rfl (Blk.row R2.out _)) rfl ?_
      rw [HS.out]
      exact ⟨q, HC.out, rfl, below_row B2.out (Nat.le_refl _) _⟩
end Go.Proofs.YtpldopoeopjcoaaGreatDoor
/- Comparisons of package cmp at strings. -/
namespace Go.Proofs.YtpldopoeopjcoaaGreatDoor
open Go.RowKit
theorem vnanS (s : ByteArray) (w : World) : Calls Tryz.prog 87 #[.string s] w fun e w' => e = .returned (.bool false) ∧ w = w' := by
  have h : (s.toList == s.toList) = true := by simp
  go_enter Tryz.func87, Tryz.ntmps87
  go_wp2_with fail
  go_ret
  exact ⟨rfl, rfl⟩
theorem less_self : ∀ l : List UInt8, Op.bytesLess l l = false
  | [] => rfl
  | a :: l => by unfold Op.bytesLess; rw [less_self l]; simp
theorem less_ne {a b : List UInt8} (h : Op.bytesLess a b = true) : (a == b) = false := by
  cases hq : (a == b) with
  | false => rfl
  | true => rw [eq_of_beq hq, less_self] at h; cases h
theorem gtrS (x y : ByteArray) (w : World) : (binOp .gtr 9 (.string x) (.string y)).run Tryz.prog w = .ok (.bool !(Op.bytesLess x.toList y.toList || x.toList == y.toList)) w := by simp [binOp, Op.stringOp]
attribute [local go_sem] gtrS
theorem vcmpS (x y : ByteArray) (w : World) : Calls Tryz.prog 70 #[.string x, .string y] w fun e w' => (∃ c : Int, e = .returned (.int .i64 c) ∧ (c == 0) = (x.toList == y.toList)) ∧ w = w' := by
  cases h1 : Op.bytesLess x.toList y.toList
  · cases h2 : (x.toList == y.toList)
    all_goals
      go_enter Tryz.func70, Tryz.ntmps70
      go_wp2_with fail
      refine (vnanS x w).mono ?_
      rintro e w1 ⟨rfl, rfl⟩
      go_wp2_with fail
      refine (vnanS y w).mono ?_
      rintro e w1 ⟨rfl, rfl⟩
      go_wp2_with fail
      go_ret
      exact ⟨⟨_, rfl, by rfl⟩, rfl⟩
  · have h2 := less_ne h1
    go_enter Tryz.func70, Tryz.ntmps70
    go_wp2_with fail
    refine (vnanS x w).mono ?_
    rintro e w1 ⟨rfl, rfl⟩
    go_wp2_with fail
    refine (vnanS y w).mono ?_
    rintro e w1 ⟨rfl, rfl⟩
    go_wp2_with fail
    go_ret
    exact ⟨⟨_, rfl, by rw [h2]; rfl⟩, rfl⟩
end Go.Proofs.YtpldopoeopjcoaaGreatDoor
/- holds of package expression. -/
namespace Go.Proofs.YtpldopoeopjcoaaGreatDoor
open Go.RowKit
def holdI (cm nu n : Int) : Bool := if cm = 1 then n == nu else if cm = 2 then n != nu else if cm = 3 then decide (n < nu) else if cm = 4 then decide (n ≤ nu) else if cm = 5 then decide (nu < n) else decide (nu ≤ n)
def holdsB (cm kd nu : Int) (tx : ByteArray) (p : Pr) : Bool :=
  if cm = 7 then Lib.contains p.tx.data.toList tx.data.toList
  else if kd = 2 then (if cm = 1 then p.tx.toList == tx.toList else !(p.tx.toList == tx.toList))
  else holdI cm nu p.nu
abbrev pC (p : Pr) : Array Value := #[.string p.nm, .int .i64 p.kd, .int .i64 p.nu, .string p.tx]
theorem holds_box (m : Xe) (p : Pr) (w : World) : Blk ((w.alloc (.cells (xC m) 25)).alloc (.cells (pC p) 58)) w.heap.size 25 (xC m) ∧ Blk ((w.alloc (.cells (xC m) 25)).alloc (.cells (pC p) 58)) (w.heap.size + 1) 58 (pC p) ∧ Below w.heap.size w ((w.alloc (.cells (xC m) 25)).alloc (.cells (pC p) 58)) := by
  refine ⟨(Blk.new w _ _).alloc _, ?_, ((Below.refl _ _).alloc (Nat.le_refl _) _).alloc (by simp) _⟩
  have := Blk.new (w.alloc (.cells (xC m) 25)) (pC p) 58
  simpa using this
set_option maxHeartbeats 4000000 in
theorem vholdI (m : Xe) (p : Pr) (hk : m.kd = 1) (hc : 1 ≤ m.cm ∧ m.cm ≤ 6) (w : World) : Calls Tryz.prog 52 #[.agg (xC m), prV p] w fun e w' => e = .returned (.bool (holdI m.cm m.nu p.nu)) ∧ Below w.heap.size w w' := by
  obtain ⟨op, cm, kd, nu, nm, tx, A, n, c⟩ := m
  simp only at hk hc
  subst hk
  obtain ⟨hx, hp, hb⟩ := holds_box ⟨op, cm, 1, nu, nm, tx, A, n, c⟩ p w
  obtain ⟨x0, x1, x2, x3, x4, x5, x6⟩ := xb_cells hx
  have p2 := hp.cell 2
  have p3 := hp.cell 3
  have HB := Lib.hid hb
  clear hx hp hb
  have HC := Lib.hid (show ∀ W : World, Calls Tryz.prog 69 #[.int .i64 p.nu, .int .i64 nu] W fun e w' => e = .returned (.int .i64 (Lib.compareInt p.nu nu)) ∧ w' = W from fun W => Tryz.cmp_Compare_int p.nu nu W)
  have hcs : cm = 1 ∨ cm = 2 ∨ cm = 3 ∨ cm = 4 ∨ cm = 5 ∨ cm = 6 := by omega
  clear hc
  have htri : p.nu < nu ∨ p.nu = nu ∨ nu < p.nu := by omega
  rcases htri with h | h | h
  · have HV := Lib.hid (show Lib.compareInt p.nu nu = -1 by unfold Lib.compareInt; rw [if_pos h])
    have HI := Lib.hid h
    clear h
    rcases hcs with rfl | rfl | rfl | rfl | rfl | rfl
    all_goals
      go_enter Tryz.func52, Tryz.ntmps52
      go_wp2_with fail
      refine (HC.out _).mono ?_
      rintro e w1 ⟨rfl, rfl⟩
      rw [HV.out]
      go_wp2_with fail
      go_ret
      exact ⟨retB (by have := HI.out; unfold holdI; simp; omega), HB.out⟩
  · have HV := Lib.hid (show Lib.compareInt p.nu nu = 0 by unfold Lib.compareInt; rw [if_neg (by omega), if_neg (by omega)])
    have HI := Lib.hid h
    clear h
    rcases hcs with rfl | rfl | rfl | rfl | rfl | rfl
    all_goals
      go_enter Tryz.func52, Tryz.ntmps52
      go_wp2_with fail
      refine (HC.out _).mono ?_
      rintro e w1 ⟨rfl, rfl⟩
      rw [HV.out]
      go_wp2_with fail
      go_ret
      exact ⟨retB (by have := HI.out; unfold holdI; simp; omega), HB.out⟩
  · have HV := Lib.hid (show Lib.compareInt p.nu nu = 1 by unfold Lib.compareInt; rw [if_neg (by omega), if_pos (by omega)])
    have HI := Lib.hid h
    clear h
    rcases hcs with rfl | rfl | rfl | rfl | rfl | rfl
    all_goals
      go_enter Tryz.func52, Tryz.ntmps52
      go_wp2_with fail
      refine (HC.out _).mono ?_
      rintro e w1 ⟨rfl, rfl⟩
      rw [HV.out]
      go_wp2_with fail
      go_ret
      exact ⟨retB (by have := HI.out; unfold holdI; simp; omega), HB.out⟩
set_option maxHeartbeats 4000000 in
theorem vholdT (m : Xe) (p : Pr) (hk : m.kd = 2) (hc : m.cm = 1 ∨ m.cm = 2 ∨ m.cm = 7) (hs : p.tx.size < 4294967281) (w : World) (hM : Mx w) : Calls Tryz.prog 52 #[.agg (xC m), prV p] w fun e w' => e = .returned (.bool (holdsB m.cm m.kd m.nu m.tx p)) ∧ Below w.heap.size w w' := by
  obtain ⟨op, cm, kd, nu, nm, tx, A, n, c⟩ := m
  simp only at hk hc
  subst hk
  obtain ⟨hx, hp, hb⟩ := holds_box ⟨op, cm, 2, nu, nm, tx, A, n, c⟩ p w
  obtain ⟨x0, x1, x2, x3, x4, x5, x6⟩ := xb_cells hx
  have p2 := hp.cell 2
  have p3 := hp.cell 3
  have HB := Lib.hid hb
  obtain ⟨mx, hmx⟩ := hM.below hb
  have HS := Lib.hid (Tryz.strings_Contains p.tx tx mx _ hs hmx)
  clear hx hp hb hM hmx
  have HC := Lib.hid (show ∀ W : World, Calls Tryz.prog 69 #[.int .i64 p.nu, .int .i64 nu] W fun e w' => e = .returned (.int .i64 (Lib.compareInt p.nu nu)) ∧ w' = W from fun W => Tryz.cmp_Compare_int p.nu nu W)
  have HT := Lib.hid (fun W : World => vcmpS p.tx tx W)
  rcases hc with rfl | rfl | rfl
  · go_enter Tryz.func52, Tryz.ntmps52
    go_wp2_with fail
    refine (HC.out _).mono ?_
    rintro e w1 ⟨rfl, rfl⟩
    go_wp2_with fail
    refine (HT.out _).mono ?_
    rintro e w1 ⟨⟨q, rfl, hq⟩, rfl⟩
    go_wp2_with fail
    go_ret
    exact ⟨retB (by unfold holdsB; simp), HB.out⟩
  · go_enter Tryz.func52, Tryz.ntmps52
    go_wp2_with fail
    refine (HC.out _).mono ?_
    rintro e w1 ⟨rfl, rfl⟩
    go_wp2_with fail
    refine (HT.out _).mono ?_
    rintro e w1 ⟨⟨q, rfl, hq⟩, rfl⟩
    have hq2 : (q != 0) = !(p.tx.toList == tx.toList) := by rw [← hq]; rfl
    go_wp2_with fail
    go_ret
    exact ⟨retB (by unfold holdsB; simp), HB.out⟩
  · go_enter Tryz.func52, Tryz.ntmps52
    go_wp2_with fail
    refine HS.out.mono ?_
    rintro e w1 ⟨rfl, rfl⟩
    go_wp2_with fail
    go_ret
    exact ⟨retB (by unfold holdsB; simp), HB.out⟩
theorem cmps_cases {cm kd nu : Int} {tx : ByteArray} (h : cmpsB cm kd nu tx = true) : (kd = 1 ∧ 1 ≤ cm ∧ cm ≤ 6) ∨ (kd = 2 ∧ (cm = 1 ∨ cm = 2 ∨ cm = 7)) := by
  unfold cmpsB at h
  split at h
  · simp at h; omega
  · split at h
    · simp at h; omega
    · cases h
theorem vholds (m : Xe) (p : Pr) (h : cmpsB m.cm m.kd m.nu m.tx = true) (hs : p.tx.size < 4294967281) (w : World) (hM : Mx w) : Calls Tryz.prog 52 #[.agg (xC m), prV p] w fun e w' => e = .returned (.bool (holdsB m.cm m.kd m.nu m.tx p)) ∧ Below w.heap.size w w' := by
  rcases cmps_cases h with ⟨h1, h2⟩ | ⟨h1, h2⟩
  · have e : holdsB m.cm m.kd m.nu m.tx p = holdI m.cm m.nu p.nu := by unfold holdsB; rw [if_neg (by omega), if_neg (by omega)]
    rw [e]
    exact vholdI m p h1 h2 w
  · exact vholdT m p h1 h2 hs w hM
end Go.Proofs.YtpldopoeopjcoaaGreatDoor

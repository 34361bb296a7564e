/- same of the statements of layer 1 at equal lists; the walk of the law MaskReads. -/
import Derived.Test.YtllomoplpoeggaaDoorMaskRFmt
namespace Go.Proofs.YtllomoplpoeggaaDoor
open Go.RowKit
set_option maxHeartbeats 400000 in
theorem same_true (w : World) (A A' : Option Addr) (zs : List Int) (n n' c c' : Nat) (hz : IntsAt w w.heap.size A zs) (hz' : IntsAt w w.heap.size A' zs) (hn : n = zs.length) (hn' : n' = zs.length) (hl : zs.length ≤ 1000) :
    Calls Tryd.prog 17 #[.slice A n c, .slice A' n' c'] w fun e w' => e = .returned (.bool true) ∧ Below w.heap.size w w' := by
  subst hn hn'
  have HZ := Lib.hid hz
  have HZ' := Lib.hid hz'
  clear hz hz'
  go_enter Tryd.func17, Tryd.ntmps17
  go_wp2_with fail
  go_loopw [5] (fun x wr => ∃ (k : Nat), k ≤ zs.length ∧ x = .int .i64 (k : Int) ∧ Below w.heap.size w wr) (fun x _ => zs.length - (intOf x).toNat)
  case atStart => exact ⟨0, by omega, rfl, Below.refl _ _⟩
  case round =>
    obtain ⟨k, hk, rfl, hb⟩ := hrel
    by_cases hlt : k < zs.length
    · obtain ⟨ad, hA, _, hc⟩ := HZ.out.keep hb k hlt
      obtain ⟨ad', hA', _, hc'⟩ := HZ'.out.keep hb k hlt
      subst hA hA'
      have a1 : (0 : Int) ≤ (k : Int) := by omega
      have a2 : (k : Int) < (zs.length : Int) := by omega
      generalize zs[k] = z at *
      go_wp2_with fail
      go_quiet (fail)
      go_wp2_with fail
      go_roundw
      case rel => exact ⟨k + 1, by omega, by go_num, below_drewN hb _⟩
      case measure => simp [intOf]; omega
    · go_wp2_with fail
      go_ret
      exact ⟨rfl, hb⟩
attribute [local irreducible] maskS
set_option maxHeartbeats 1000000 in
theorem maskReads_walk (m : Nat) (n : Int) (w : World) (hm : m < 18446744073709551616) (hD : Db w) :
    Calls Tryd.prog 4 #[.int .u64 (m : Int), .int .i64 n] w fun e w' => e = .returned (.bool true) ∧ Below w.heap.size w w' := by
  have HM := Lib.hid hm
  have hlen := memF_len m 0
  clear hm
  go_enter Tryd.func4, Tryd.ntmps4
  go_wp2_with fail
  refine (vvalid m _ HM.out).mono ?_
  rintro e w' ⟨rfl, rfl⟩
  go_wp2_with fail
  refine (rvalid m _).mono ?_
  rintro e w' ⟨rfl, rfl⟩
  go_wp2_with fail
  refine (vhas m _ _ HM.out).mono ?_
  rintro e w' ⟨rfl, rfl⟩
  go_wp2_with fail
  refine (rhas m _ _ HM.out).mono ?_
  rintro e w' ⟨rfl, rfl⟩
  go_wp2_with fail
  refine (vlist m _ HM.out hD).mono ?_
  rintro e w1 ⟨v1, rfl, hown1, hb1⟩
  have HO1 := Lib.hid hown1
  clear hown1
  go_wp2_with fail
  refine (rlist m _ HM.out).mono ?_
  rintro e w2 ⟨v2, rfl, hown2, hb2⟩
  obtain ⟨_, A1, c1, hv1, hI1⟩ := ints_own HO1.out
  obtain ⟨_, A2, c2, hv2, hI2⟩ := ints_own hown2
  subst hv1 hv2
  have HI1 := Lib.hid (IntsAt.more (hI1.keep hb2) hb2.size)
  have HI2 := Lib.hid hI2
  have hb12 := below_then hb1 hb2
  clear hown2 HO1 hI1 hI2
  go_wp2_with fail
  refine (same_true _ _ _ ((memF m 0).map Int.ofNat) _ _ _ _ HI1.out HI2.out (by simp) (by simp) (by simp; omega)).mono ?_
  rintro e w3 ⟨rfl, hb3⟩
  have hb13 := below_then hb12 hb3
  go_wp2_with fail
  refine (vmfmt m _ HM.out).mono ?_
  rintro e w4 ⟨rfl, hb4⟩
  have hb14 := below_then hb13 hb4
  go_wp2_with fail
  refine (rmfmt m _ HM.out).mono ?_
  rintro e w5 ⟨rfl, hb5⟩
  have hb15 := below_then hb14 hb5
  go_wp2_with fail
  refine (awake1 _).mono ?_
  rintro e w6 ⟨rfl, hb6⟩
  go_wp2_with fail
  go_ret
  exact ⟨rfl, below_then hb15 hb6⟩
end Go.Proofs.YtllomoplpoeggaaDoor

/- The walk of the law MaskMembers. -/
import Derived.Test.YtllomoplpoeggaaDoorMaskRFmt
namespace Go.Proofs.YtllomoplpoeggaaDoor
open Go.RowKit
theorem fold_bit : ∀ (zs : List Nat) (a i : Nat), ((zs.map Int.ofNat).foldl (fun m z => m ||| 2 ^ z.toNat) a).testBit i = (a.testBit i || decide (i ∈ zs))
  | [], a, i => by simp
  | z :: zs, a, i => by
    rw [List.map_cons, List.foldl_cons, fold_bit zs, Nat.testBit_or]
    show ((a.testBit i || (2 ^ z).testBit i) || decide (i ∈ zs)) = _
    rw [Nat.testBit_two_pow, Bool.or_assoc]
    congr 1
    by_cases h : z = i
    · simp [h]
    · simp [h, Ne.symm h]
theorem orN_mem (m : Nat) : orN ((memF m 0).map Int.ofNat) = m % 4294967296 := by
  apply Nat.eq_of_testBit_eq
  intro i
  unfold orN
  rw [fold_bit, Nat.zero_testBit, Bool.false_or, show (4294967296 : Nat) = 2 ^ 32 from rfl, Nat.testBit_mod_two_pow]
  unfold memF
  by_cases h : i < 32
  · cases hb : m.testBit i <;> simp [List.mem_filter, hasN, h, hb]
  · simp [List.mem_filter, h]
theorem mem_in (m : Nat) : ((memF m 0).map Int.ofNat).any outB = false := by
  rw [List.any_eq_false]
  intro x hx
  obtain ⟨n, hn, rfl⟩ := List.mem_map.1 hx
  have := (memF_ge m 0 n hn).2
  unfold outB; simp; omega
theorem of_mem (m : Nat) : ofM ((memF m 0).map Int.ofNat) = ((m % 4294967296 : Nat) : Int) ∧ ofE ((memF m 0).map Int.ofNat) = 0 := by
  unfold ofM ofE
  rw [mem_in, orN_mem]; exact ⟨rfl, rfl⟩
theorem hasB_neg (m : Nat) (x : Int) (h : x < 0) : hasB m x = false := by unfold hasB; simp; omega
theorem drop_cons {L : List Nat} {c k : Nat} {r : List Nat} (h : L.drop c = k :: r) : c < L.length ∧ L.getD c 0 = k ∧ L.drop (c + 1) = r := by
  have hc : c < L.length := by
    rcases Nat.lt_or_ge c L.length with hl | hl
    · exact hl
    · rw [List.drop_eq_nil_of_le hl] at h; cases h
  rw [List.drop_eq_getElem_cons hc] at h
  injection h with h1 h2
  exact ⟨hc, by rw [getD_at L c hc, h1], h2⟩
theorem vof_n (w : World) (B : Nat) (A : Option Addr) (zs : List Int) (n c : Nat) (hz : IntsAt w B A zs) (hn : n = zs.length) (hl : zs.length ≤ maxLen) :
    Calls Tryd.prog 11 #[.slice A n c] w fun e w' => e = .returned (.tuple #[.int .u64 (ofM zs), .int .i64 (ofE zs)]) ∧ w = w' := by
  subst hn; exact vof w B A zs c hz hl
attribute [local irreducible] maskS
set_option maxHeartbeats 2000000 in
theorem maskMembers_walk (m : Nat) (w : World) (hm : m < 18446744073709551616) (hD : Db w) :
    Calls Tryd.prog 5 #[.int .u64 (m : Int)] w fun e w' => e = .returned (.bool true) ∧ Below w.heap.size w w' := by
  have HM := Lib.hid hm
  have hlen := memF_len m 0
  have HA := Lib.hid (and_low m hm)
  have HO := Lib.hid (of_mem m)
  have HV := Lib.hid (vlist m w hm hD)
  clear hm
  go_enter Tryd.func5, Tryd.ntmps5
  go_wp2_with fail
  refine HV.out.mono ?_
  rintro e w1 ⟨v1, rfl, hown1, hb1⟩
  obtain ⟨_, A, c, hv1, hI1⟩ := ints_own hown1
  subst hv1
  have HI := Lib.hid hI1
  clear hown1 hI1
  have H0 := Lib.hid (show (memF m 0).drop 0 = memF m ((-2 : Int).toNat) from rfl)
  generalize hL : memF m 0 = L at *
  have HL := Lib.hid hL
  clear hL
  go_wp2_with fail
  go_loop [4, 5] (fun y x => ∃ (t : Nat) (z : Int), -2 ≤ z ∧ z ≤ 72 ∧ t ≤ L.length ∧ y = .int .i64 (t : Int) ∧ x = .int .i64 z ∧ Hid (L.drop t = memF m z.toNat)) (fun _ x => (72 - intOf x).toNat)
  case atStart => exact ⟨0, -2, by omega, by omega, by omega, rfl, rfl, H0⟩
  case round =>
    obtain ⟨t, z, hz0, hz1, ht, rfl, rfl, hdrop⟩ := hrel
    by_cases hlt : z < 72
    · go_wp2_with fail
      refine (vhas m _ _ HM.out).mono ?_
      rintro e w' ⟨rfl, rfl⟩
      by_cases hneg : z < 0
      · rw [hasB_neg m z hneg]
        have HD' := Lib.hid (show L.drop t = memF m (z + 1).toNat by rw [hdrop.out, show z.toNat = 0 by omega, show (z + 1).toNat = 0 by omega])
        go_wp2_with fail
        go_round
        case rel => exact ⟨t, z + 1, by omega, by omega, ht, rfl, by go_num, HD'⟩
        case measure => simp [intOf]; omega
      · obtain ⟨k, rfl⟩ := Int.eq_ofNat_of_zero_le (show 0 ≤ z by omega)
        rw [Int.toNat_natCast] at hdrop
        rw [hasB_nat]
        cases hh : hasN m k
        · have HD' := Lib.hid (show L.drop t = memF m (k + 1) by rw [hdrop.out, memF_no m k hh])
          clear hh
          go_wp2_with fail
          go_round
          case rel => exact ⟨t, (k : Int) + 1, by omega, by omega, ht, rfl, rfl, HD'⟩
          case measure => simp [intOf]; omega
        · have hd := hdrop.out
          rw [memF_yes m k hh] at hd
          obtain ⟨h1, h2, h3⟩ := drop_cons hd
          have HD' := Lib.hid h3
          obtain ⟨ad, hA, _, hc⟩ := ints_getD HI.out t h1
          subst hA
          rw [h2] at hc
          clear hh hd h2 h3
          go_wp2_with fail
          go_round
          case rel => exact ⟨t + 1, (k : Int) + 1, by omega, by omega, by omega, by go_num, rfl, HD'⟩
          case measure => simp [intOf]; omega
    · obtain rfl : z = 72 := by omega
      have ht2 : t = L.length := by
        have := hdrop.out
        rw [memF_end m (72 : Int).toNat (by decide)] at this
        have := congrArg List.length this
        simp at this; omega
      subst ht2
      have ha := HA.out
      go_wp2_with fail
      refine (vof_n _ _ A (L.map Int.ofNat) _ _ HI.out (by simp) (by unfold maxLen; simp; omega)).mono ?_
      rintro e w' ⟨rfl, rfl⟩
      rw [HO.out.1, HO.out.2]
      go_wp2_with fail
      refine (awake1 _).mono ?_
      rintro e w2 ⟨rfl, hb2⟩
      go_wp2_with fail
      go_ret
      exact ⟨rfl, below_then hb1 hb2⟩
end Go.Proofs.YtllomoplpoeggaaDoor

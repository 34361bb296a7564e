/- Number of the reference. -/
import Derived.Test.YtnpaoepkpdileaaDoorItoa
namespace Go.Proofs.YtnpaoepkpdileaaDoor
open Go.RowKit
theorem numS_pos (n : Nat) : numS (n : Int) = decS n := by
  unfold numS decS Lib.itoa; rw [if_neg (by omega)]; rfl
theorem numS_neg (n : Nat) (h : 0 < n) : numS (-(n : Int)) = ⟨#[45]⟩ ++ decS n := by
  unfold numS decS Lib.itoa; rw [if_pos (by omega), show (-(n : Int)).natAbs = n by omega]
  apply ByteArray.ext; simp
theorem numS_least : numS (-9223372036854775808) = ⟨#[45]⟩ ++ decS 922337203685477580 ++ decS 8 := by
  have e : (-9223372036854775808 : Int) = -((9223372036854775808 : Nat) : Int) := by omega
  rw [e, numS_neg _ (by omega)]
  have : decS 9223372036854775808 = decS 922337203685477580 ++ decS 8 := by
    unfold decS
    rw [Lib.decDigits, dif_neg (by omega)]
    rw [show 9223372036854775808 / 10 = 922337203685477580 from rfl, show 9223372036854775808 % 10 = 8 from rfl, Lib.decDigits_one (show 8 < 10 by omega)]
    apply ByteArray.ext; simp
  rw [this, ByteArray.append_assoc]
set_option maxHeartbeats 400000 in
theorem rnumber_pos (n : Nat) (w : World) (hn : (n : Int) ≤ 9223372036854775807) :
    Calls Tryd.prog 53 #[.int .i64 (n : Int)] w fun e w' => e = .returned (.string (numS n)) ∧ w = w' := by
  have H := Lib.hid (numS_pos n)
  go_enter Tryd.func53, Tryd.ntmps53
  go_wp2_with (go_at_call 77; refine (decimal n _ hn).mono ?_; rintro e w' ⟨rfl, rfl⟩)
  go_ret
  exact ⟨retS H.out.symm, rfl⟩
set_option maxHeartbeats 400000 in
theorem rnumber_neg (n : Nat) (w : World) (h0 : 0 < (n : Int)) (hn : (n : Int) ≤ 9223372036854775807) :
    Calls Tryd.prog 53 #[.int .i64 (-(n : Int))] w fun e w' => e = .returned (.string (numS (-(n : Int)))) ∧ w = w' := by
  have H := Lib.hid (numS_neg n (by omega))
  have hz := decS_size n (by omega)
  go_enter Tryd.func53, Tryd.ntmps53
  go_wp2_with fail
  refine (decimal n _ hn).mono ?_
  rintro e w' ⟨rfl, rfl⟩
  go_wp2_with fail
  go_ret
  exact ⟨retS H.out.symm, rfl⟩
attribute [local irreducible] decS
set_option maxRecDepth 100000 in
set_option maxHeartbeats 400000 in
theorem rnumber_least (w : World) :
    Calls Tryd.prog 53 #[.int .i64 (-9223372036854775808)] w fun e w' => e = .returned (.string (numS (-9223372036854775808))) ∧ w = w' := by
  have H := Lib.hid numS_least
  have hz1 := decS_size 922337203685477580 (by omega)
  have hz2 := decS_size 8 (by omega)
  have hd1 := Lib.hid (fun w => decimal 922337203685477580 w (by omega))
  have hd2 := Lib.hid (fun w => decimal 8 w (by omega))
  have hneg : wrap64 9223372036854775808 < 0 := by decide +kernel
  go_enter Tryd.func53, Tryd.ntmps53
  go_wp2_with fail
  refine (hd1.out _).mono ?_
  rintro e w' ⟨rfl, rfl⟩
  go_wp2_with fail
  refine (hd2.out _).mono ?_
  rintro e w' ⟨rfl, rfl⟩
  go_wp2_with fail
  go_ret
  exact ⟨retS H.out.symm, rfl⟩
theorem rnumber (n : Int) (h0 : -9223372036854775808 ≤ n) (h1 : n ≤ 9223372036854775807) (w : World) :
    Calls Tryd.prog 53 #[.int .i64 n] w fun e w' => e = .returned (.string (numS n)) ∧ w = w' := by
  by_cases hn : 0 ≤ n
  · obtain ⟨k, rfl⟩ := Int.eq_ofNat_of_zero_le hn
    exact rnumber_pos k w (by omega)
  · by_cases hm : n = -9223372036854775808
    · subst hm
      exact rnumber_least w
    · obtain ⟨k, rfl⟩ : ∃ k : Nat, n = -(k : Int) := ⟨n.natAbs, by omega⟩
      exact rnumber_neg k w (by omega) (by omega)
end Go.Proofs.YtnpaoepkpdileaaDoor

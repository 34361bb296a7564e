/- Decimal of the reference writes the decimal digits of a number that is not negative. -/
import Derived.Test.YtnpaoepkpdileaaDoorProg
import Derived.Test.YtnpaoepkpdileaaDoorOwn
import Derived.Lib.ItoaNum
import Derived.Lib.Hide
import Derived.WalkSpells
import Derived.LoopTactic
import Derived.Outline
import Derived.WalkLawsBesides
namespace Go.Proofs.YtnpaoepkpdileaaDoor
open Go.RowKit
theorem nd_le : ∀ (k u : Nat), u < 10 ^ (k + 1) → Lib.nDigits u ≤ k + 1
  | 0, u, h => by rw [Lib.nDigits_small (by simpa using h)]; omega
  | k + 1, u, h => by
    by_cases hu : u < 10
    · rw [Lib.nDigits_small hu]; omega
    · rw [Lib.nDigits_big hu]
      have := nd_le k (u / 10) (by rw [Nat.pow_succ] at h; omega)
      omega
theorem dec_len (u : Nat) (h : u < 10000000000000000000) : (Lib.decDigits u).length ≤ 19 := by
  rw [Lib.decDigits_length]; exact nd_le 18 u h
/-- The decimal digits of n as a string. -/
def decS (n : Nat) : ByteArray := ⟨(Lib.decDigits n).toArray⟩
theorem decS_size (n : Nat) (h : n < 10000000000000000000) : (decS n).size ≤ 19 := by
  have : (decS n).size = (Lib.decDigits n).length := by show (Lib.decDigits n).toArray.size = _; simp
  rw [this]; exact dec_len n h
theorem enc_digit : ∀ d : Fin 10, Utf8.encode (48 + (d.val : Int)) = ⟨#[UInt8.ofNat (48 + d.val)]⟩ := by decide +kernel
theorem enc_dig (x : Int) (h0 : 0 ≤ x) (h1 : x < 10) : Utf8.encode (48 + x) = ⟨#[UInt8.ofNat (48 + x.toNat)]⟩ := by
  have := enc_digit ⟨x.toNat, by omega⟩
  simp only [Int.toNat_of_nonneg h0] at this
  exact this
def DecLeft (n m : Nat) (T : ByteArray) : Prop := Lib.decDigits n = Lib.decDigits m ++ T.data.toList
theorem DecLeft.step {n m : Nat} {T : ByteArray} (h : DecLeft n m T) (hm : 10 ≤ m) : DecLeft n (m / 10) (⟨#[UInt8.ofNat (48 + m % 10)]⟩ ++ T) := by
  unfold DecLeft at *
  rw [h, Lib.decDigits, dif_neg (by omega)]
  simp
theorem DecLeft.done {n m : Nat} {T : ByteArray} (h : DecLeft n m T) (hm : m < 10) : ⟨#[UInt8.ofNat (48 + m)]⟩ ++ T = decS n := by
  unfold DecLeft at h
  unfold decS
  rw [h, Lib.decDigits_one hm]
  apply ByteArray.ext; simp
theorem DecLeft.size {n m : Nat} {T : ByteArray} (h : DecLeft n m T) (hn : n < 10000000000000000000) : T.size ≤ 19 := by
  have h1 := dec_len n hn
  unfold DecLeft at h
  rw [h, List.length_append] at h1
  have h2 : T.data.toList.length = T.size := Array.length_toList
  omega
attribute [local irreducible] Utf8.encode
set_option maxHeartbeats 400000 in
theorem decimal (n : Nat) (w : World) (hn : (n : Int) ≤ 9223372036854775807) :
    Calls Tryd.prog 77 #[.int .i64 (n : Int)] w fun e w' => e = .returned (.string (decS n)) ∧ w = w' := by
  go_enter Tryd.func77, Tryd.ntmps77
  go_wp2
  go_loop [0, 3] (fun x v => ∃ (m : Nat) (T : ByteArray), (m : Int) ≤ 9223372036854775807 ∧ x = .int .i64 (m : Int) ∧ v = .string T ∧ T.size ≤ 19 ∧ Hid (DecLeft n m T)) (fun x _ => (intOf x).toNat)
  case atStart => exact ⟨n, ⟨#[]⟩, hn, rfl, rfl, by decide, show DecLeft _ _ _ from by simp [DecLeft]⟩
  case round =>
    obtain ⟨m, T, hm, rfl, rfl, hT, hleft⟩ := hrel
    by_cases hlt : 10 ≤ m
    · have H := Lib.hid (hleft.out.step hlt)
      have HZ := Lib.hid (H.out.size (by omega))
      have q0 : (0 : Int) ≤ (m : Int) % 10 := by omega
      have q1 : (m : Int) % 10 < 10 := by omega
      have HE := Lib.hid (enc_dig _ q0 q1)
      have hEz : (Utf8.encode (48 + (m : Int) % 10)).size ≤ 1 := by rw [HE.out]; exact Nat.le_refl 1
      go_wp2
      go_round
      case rel => exact ⟨m / 10, _, by omega, by go_num, rfl, by rw [HE.out, show ((m : Int) % 10).toNat = m % 10 by omega]; exact HZ.out, by rw [HE.out, show ((m : Int) % 10).toNat = m % 10 by omega]; exact H⟩
      case measure => simp [intOf]; omega
    · have H := Lib.hid (hleft.out.done (by omega))
      have q0 : (0 : Int) ≤ (m : Int) := by omega
      have q1 : (m : Int) < 10 := by omega
      have HE := Lib.hid (enc_dig _ q0 q1)
      have hEz : (Utf8.encode (48 + (m : Int))).size ≤ 1 := by rw [HE.out]; exact Nat.le_refl 1
      go_wp2
      go_ret
      exact ⟨retS (by rw [HE.out, Int.toNat_natCast]; exact H.out), rfl⟩
end Go.Proofs.YtnpaoepkpdileaaDoor

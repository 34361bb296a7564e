/- Of, of the program and of the reference. -/
import Derived.Test.YtllomoplpoeggaaDoorInts
import Derived.Test.YtllomoplpoeggaaDoorProg
import Derived.Lib.Hide
import Derived.WalkSpells
import Derived.LoopTactic
import Derived.Outline
import Derived.IntWalk
import Derived.Laws.BitsAllLaws
namespace Go.Proofs.YtllomoplpoeggaaDoor
open Go.RowKit
def orN (zs : List Int) : Nat := zs.foldl (fun m z => m ||| 2 ^ z.toNat) 0
def outB (z : Int) : Bool := decide (z < 0) || decide (32 ≤ z)
def ofM (zs : List Int) : Int := if zs.any outB then 0 else (orN zs : Int)
def ofE (zs : List Int) : Int := if zs.any outB then 10 else 0
theorem orN_snoc (zs : List Int) (z : Int) : orN (zs ++ [z]) = orN zs ||| 2 ^ z.toNat := by simp [orN, List.foldl_append]
theorem or_lt {m n : Nat} (hm : m < 4294967296) (hn : n < 32) : m ||| 2 ^ n < 4294967296 := by
  have h1 : m < 2 ^ 32 := hm
  have h2 : 2 ^ n < 2 ^ 32 := Nat.pow_lt_pow_right (by omega) hn
  exact Nat.or_lt_two_pow h1 h2
theorem orN_lt : ∀ (zs : List Int) (m : Nat), m < 4294967296 → zs.any outB = false → zs.foldl (fun m z => m ||| 2 ^ z.toNat) m < 4294967296
  | [], m, hm, _ => hm
  | z :: zs, m, hm, h => by
    simp only [List.any_cons, Bool.or_eq_false_iff] at h
    have hz : z.toNat < 32 := by have := h.1; unfold outB at this; simp at this; omega
    exact orN_lt zs _ (or_lt hm hz) h.2
theorem any_at (zs : List Int) (k : Nat) (h : k < zs.length) (ho : outB zs[k] = true) : zs.any outB = true := List.any_eq_true.2 ⟨_, List.getElem_mem h, ho⟩
theorem any_next (zs : List Int) (k : Nat) (h : k < zs.length) (hn : (zs.take k).any outB = false) (ho : outB zs[k] = false) : (zs.take (k + 1)).any outB = false := by
  rw [List.take_succ_eq_append_getElem h, List.any_append, hn]; simp [ho]
theorem orN_next (zs : List Int) (k : Nat) (h : k < zs.length) : orN (zs.take (k + 1)) = orN (zs.take k) ||| 2 ^ zs[k].toNat := by
  rw [List.take_succ_eq_append_getElem h, orN_snoc]
theorem or_bits {m : Nat} {z : Int} (hm : m < 4294967296) (_h0 : 0 ≤ z) (h1 : z < 32) : bits .or .u64 (m : Int) (IntKind.u64.wrap (2 ^ z.toNat)) = ((m ||| 2 ^ z.toNat : Nat) : Int) := by
  have h3 : 2 ^ z.toNat < 2 ^ 32 := Nat.pow_lt_pow_right (by omega) (by omega)
  have h2 : 2 ^ z.toNat < 4294967296 := h3
  clear h3
  have e : ((2 : Int) ^ z.toNat) = ((2 ^ z.toNat : Nat) : Int) := by rw [Int.natCast_pow]; rfl
  rw [e]
  generalize 2 ^ z.toNat = q at *
  rw [IntKind.wrap_u64, Int.emod_eq_of_lt (by omega) (by omega), u64_or_nat m q (by omega) (by omega)]
theorem tupM {a b : Int} {m n : Int} (h : a = b) (k : m = n) : Ending.returned (.tuple #[.int .u64 a, .int .i64 m]) = .returned (.tuple #[.int .u64 b, .int .i64 n]) := by rw [h, k]
set_option maxHeartbeats 400000 in
theorem vof (w : World) (B : Nat) (A : Option Addr) (zs : List Int) (c : Nat) (hz : IntsAt w B A zs) (hl : zs.length ≤ maxLen) :
    Calls Tryd.prog 11 #[.slice A zs.length c] w fun e w' => e = .returned (.tuple #[.int .u64 (ofM zs), .int .i64 (ofE zs)]) ∧ w = w' := by
  unfold maxLen at hl
  have HZ := Lib.hid hz
  clear hz
  go_enter Tryd.func11, Tryd.ntmps11
  go_wp2
  go_loop [4, 9] (fun v i => ∃ k : Nat, k ≤ zs.length ∧ i = .int .i64 k ∧ v = .int .u64 (orN (zs.take k) : Int) ∧ Hid ((zs.take k).any outB = false)) (fun _ i => zs.length - (intOf i).toNat)
  case atStart => exact ⟨0, Nat.zero_le _, rfl, rfl, rfl⟩
  case round =>
    obtain ⟨k, hk, rfl, rfl, hno⟩ := hrel
    by_cases hlt : k < zs.length
    · obtain ⟨ad, rfl, hadb, hc⟩ := HZ.out k hlt
      by_cases ho : outB zs[k] = true
      · have HA := Lib.hid (any_at zs k hlt ho)
        have hout : zs[k] < 0 ∨ 32 ≤ zs[k] := by unfold outB at ho; simp at ho; omega
        clear ho
        generalize zs[k] = z at *
        rcases hout with h | h
        all_goals
          go_wp2
          go_ret2
          exact ⟨tupM (by rw [ofM, HA.out]; rfl) (by rw [ofE, HA.out]; rfl), rfl⟩
      · have HN := Lib.hid (any_next zs k hlt hno.out (by simpa using ho))
        have HO := Lib.hid (orN_next zs k hlt)
        have hin : 0 ≤ zs[k] ∧ zs[k] < 32 := by unfold outB at ho; simp at ho; omega
        have HB := Lib.hid (or_bits (orN_lt (zs.take k) 0 (by omega) hno.out) hin.1 hin.2)
        obtain ⟨i0, i1⟩ := hin
        clear ho
        generalize zs[k] = z at *
        go_wp2
        go_round
        case rel => exact ⟨k + 1, by omega, by go_num, congrArg (Value.int .u64) (by rw [HO.out]; exact HB.out), HN⟩
        case measure => simp [intOf]; omega
    · obtain rfl : k = zs.length := by omega
      rw [List.take_length] at hno
      go_wp2
      go_ret2
      exact ⟨tupM (by rw [ofM, hno.out]; rfl) (by rw [ofE, hno.out]; rfl), rfl⟩
set_option maxHeartbeats 400000 in
theorem rof (w : World) (B : Nat) (A : Option Addr) (zs : List Int) (c : Nat) (hz : IntsAt w B A zs) (hl : zs.length ≤ maxLen) :
    Calls Tryd.prog 12 #[.slice A zs.length c] w fun e w' => e = .returned (.tuple #[.int .u64 (ofM zs), .int .i64 (ofE zs)]) ∧ w = w' := by
  unfold maxLen at hl
  have HZ := Lib.hid hz
  clear hz
  go_enter Tryd.func12, Tryd.ntmps12
  go_wp2
  go_loop [4, 5] (fun v i => ∃ k : Nat, k ≤ zs.length ∧ i = .int .i64 k ∧ v = .int .u64 (orN (zs.take k) : Int) ∧ Hid ((zs.take k).any outB = false)) (fun _ i => zs.length - (intOf i).toNat)
  case atStart => exact ⟨0, Nat.zero_le _, rfl, rfl, rfl⟩
  case round =>
    obtain ⟨k, hk, rfl, rfl, hno⟩ := hrel
    by_cases hlt : k < zs.length
    · obtain ⟨ad, rfl, hadb, hc⟩ := HZ.out k hlt
      by_cases ho : outB zs[k] = true
      · have HA := Lib.hid (any_at zs k hlt ho)
        have hout : zs[k] < 0 ∨ 32 ≤ zs[k] := by unfold outB at ho; simp at ho; omega
        clear ho
        generalize zs[k] = z at *
        rcases hout with h | h
        all_goals
          go_wp2
          go_ret2
          exact ⟨tupM (by rw [ofM, HA.out]; rfl) (by rw [ofE, HA.out]; rfl), rfl⟩
      · have HN := Lib.hid (any_next zs k hlt hno.out (by simpa using ho))
        have HO := Lib.hid (orN_next zs k hlt)
        have hin : 0 ≤ zs[k] ∧ zs[k] < 32 := by unfold outB at ho; simp at ho; omega
        have HB := Lib.hid (or_bits (orN_lt (zs.take k) 0 (by omega) hno.out) hin.1 hin.2)
        obtain ⟨i0, i1⟩ := hin
        clear ho
        generalize zs[k] = z at *
        go_wp2
        go_round
        case rel => exact ⟨k + 1, by omega, by go_num, congrArg (Value.int .u64) (by rw [HO.out]; exact HB.out), HN⟩
        case measure => simp [intOf]; omega
    · obtain rfl : k = zs.length := by omega
      rw [List.take_length] at hno
      go_wp2
      go_ret2
      exact ⟨tupM (by rw [ofM, hno.out]; rfl) (by rw [ofE, hno.out]; rfl), rfl⟩
end Go.Proofs.YtllomoplpoeggaaDoor

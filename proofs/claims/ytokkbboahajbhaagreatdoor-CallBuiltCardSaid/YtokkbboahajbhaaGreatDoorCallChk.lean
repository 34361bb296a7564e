/- Check of a call, of the program and of the reference, returns callE. -/
import Derived.Test.YtokkbboahajbhaaGreatDoorCallNum
import Derived.Test.YtokkbboahajbhaaGreatDoorStrs
namespace Go.Proofs.YtokkbboahajbhaaGreatDoor
open Go.RowKit
/-- A call as a value. -/
abbrev callV (z : Int) (a : Nat → Int) (P : Option Addr) (np cp : Nat) (A : Option Addr) (na ca : Nat) : Value :=
  .agg #[.int .i64 z, .int .i64 (a 0), .int .i64 (a 1), .int .i64 (a 2), .int .i64 (a 3), .slice P np cp, .slice A na ca]
def zeroB (m : Nat) (a : Nat → Int) : Bool := (List.range 4).all fun j => decide (j < m) || a j == 0
theorem zeroB_no {m : Nat} {a : Nat → Int} {j : Nat} (h1 : m ≤ j) (h2 : j < 4) (h : a j ≠ 0) : zeroB m a = false := by
  unfold zeroB; rw [List.all_eq_false]
  exact ⟨j, by simpa using h2, by simp; exact ⟨h1, h⟩⟩
theorem zeroB_yes {m : Nat} {a : Nat → Int} (h : ∀ j, m ≤ j → j < 4 → a j = 0) : zeroB m a = true := by
  unfold zeroB; rw [List.all_eq_true]
  intro j hj
  simp at hj
  by_cases hm : j < m
  · simp [hm]
  · simp [h j (by omega) hj]
def callE (z : Int) (a : Nat → Int) (ps gs : List ByteArray) : Int :=
  if (rowI z).name.size = 0 then 100 else if zeroB (rowI z).nums a = false then 101
  else if ps.length ≠ (rowI z).pths ∨ gs.length < (rowI z).least ∨ (rowI z).most < gs.length then 101
  else if longB ps 128 = true ∨ longB gs 64 = true then 102 else 0
set_option maxHeartbeats 400000 in
theorem vlong (w : World) (B : Nat) (A : Option Addr) (ss : List ByteArray) (c m : Nat) (hz : StrsAt w B A ss) (hl : ss.length ≤ maxLen) (hs : ∀ s ∈ ss, s.size ≤ maxLen) :
    Calls Tryz.prog 33 #[.slice A ss.length c, .int .i64 (m : Int)] w fun e w' => e = .returned (.bool (longB ss m)) ∧ w = w' := by
  unfold maxLen at hl
  have HZ := Lib.hid hz
  have HS := Lib.hid hs
  clear hz hs
  go_enter Tryz.func33, Tryz.ntmps33
  go_wp2
  go_loop [6, 9] (fun _ i => ∃ k : Nat, k ≤ ss.length ∧ i = .int .i64 k ∧ Hid (∀ j (hj : j < ss.length), j < k → ss[j].size ≤ m)) (fun _ i => ss.length - (intOf i).toNat)
  case atStart => exact ⟨0, Nat.zero_le _, rfl, fun j _ hj => by omega⟩
  case round =>
    obtain ⟨k, hk, rfl, hno⟩ := hrel
    by_cases hlt : k < ss.length
    · obtain ⟨ad, rfl, hadb, hc⟩ := HZ.out k hlt
      have hsz := HS.out _ (List.getElem_mem hlt)
      unfold maxLen at hsz
      by_cases ho : m < ss[k].size
      · have HA := Lib.hid (long_at hlt ho)
        generalize ss[k] = s at *
        go_wp2
        go_ret
        exact ⟨by rw [HA.out]; rfl, rfl⟩
      · have HN := Lib.hid (show ∀ j (hj : j < ss.length), j < k + 1 → ss[j].size ≤ m from fun j hj hjk => by
          by_cases e : j = k
          · subst e; omega
          · exact hno.out j hj (by omega))
        generalize ss[k] = s at *
        go_wp2
        go_round
        case rel => exact ⟨k + 1, by omega, by go_num, HN.out⟩
        case measure => simp [intOf]; omega
    · have HA := Lib.hid (long_all fun j hj => hno.out j hj (by omega))
      go_wp2
      go_ret
      exact ⟨by rw [HA.out]; rfl, rfl⟩
end Go.Proofs.YtokkbboahajbhaaGreatDoor

/- digit of package value, and value of the reference: the value of a hexadecimal digit. -/
import Derived.Test.YtnpaoepkpdileaaDoorQuote
import Derived.Laws.Rows
namespace Go.Proofs.YtnpaoepkpdileaaDoor
open Go.RowKit
/-- The value of a hexadecimal digit, or -1. -/
def unhexd (c : UInt8) : Int := if 48 ≤ c.toNat ∧ c.toNat ≤ 57 then c.toNat - 48 else if 97 ≤ c.toNat ∧ c.toNat ≤ 102 then c.toNat - 87 else -1
theorem unhexd_hexd : ∀ k : Fin 16, unhexd (hexd k.val) = (k.val : Int) := by decide +kernel
theorem hexd_unhexd : ∀ c : Fin 256, unhexd (UInt8.ofNat c.val) ≠ -1 → 0 ≤ unhexd (UInt8.ofNat c.val) ∧ unhexd (UInt8.ofNat c.val) < 16 ∧ hexd (unhexd (UInt8.ofNat c.val)).toNat = UInt8.ofNat c.val := by decide +kernel
theorem unhexd_at (c : UInt8) (k : Nat) (hk : k < 16) (h : ((hexd k).toNat : Int) = (c.toNat : Int)) : unhexd c = k := by
  have : hexd k = c := UInt8.toNat.inj (by omega)
  rw [← this]; exact unhexd_hexd ⟨k, hk⟩
theorem unhexd_prop (c : UInt8) (h : unhexd c ≠ -1) : 0 ≤ unhexd c ∧ unhexd c < 16 ∧ hexd (unhexd c).toNat = c := by
  have := hexd_unhexd ⟨c.toNat, c.toNat_lt⟩
  simp only [UInt8.ofNat_toNat] at this
  exact this h
theorem unhexd_none (c : UInt8) (h : ∀ k : Nat, k < 16 → ¬ ((hexd k).toNat : Int) = (c.toNat : Int)) : unhexd c = -1 := by
  by_cases hc : unhexd c = -1
  · exact hc
  · obtain ⟨h1, h2, h3⟩ := unhexd_prop c hc
    exact absurd (by rw [h3]) (h (unhexd c).toNat (by omega))
theorem unhexd_bounds (c : UInt8) : -1 ≤ unhexd c ∧ unhexd c < 16 := by
  by_cases hc : unhexd c = -1
  · omega
  · have := unhexd_prop c hc; omega
theorem tab_index (k : Nat) (hk : k < 16) (w : World) : (Instr.index 105 (.agg tabV) (.int .i64 k)).run Tryd.prog w = .ok (bv (hexd k)) w := by
  have : k = 0 ∨ k = 1 ∨ k = 2 ∨ k = 3 ∨ k = 4 ∨ k = 5 ∨ k = 6 ∨ k = 7 ∨ k = 8 ∨ k = 9 ∨ k = 10 ∨ k = 11 ∨ k = 12 ∨ k = 13 ∨ k = 14 ∨ k = 15 := by omega
  rcases this with h | h | h | h | h | h | h | h | h | h | h | h | h | h | h | h <;> (subst h; clear hk; show _ = _; kernel_rfl)
theorem dig_index (k : Nat) (hk : k < 16) (w : World) : (Instr.index 9 (.string ⟨#[48, 49, 50, 51, 52, 53, 54, 55, 56, 57, 97, 98, 99, 100, 101, 102]⟩) (.int .i64 k)).run Tryd.prog w = .ok (bv (hexd k)) w := by
  have : k = 0 ∨ k = 1 ∨ k = 2 ∨ k = 3 ∨ k = 4 ∨ k = 5 ∨ k = 6 ∨ k = 7 ∨ k = 8 ∨ k = 9 ∨ k = 10 ∨ k = 11 ∨ k = 12 ∨ k = 13 ∨ k = 14 ∨ k = 15 := by omega
  rcases this with h | h | h | h | h | h | h | h | h | h | h | h | h | h | h | h <;> (subst h; clear hk; show _ = _; kernel_rfl)
set_option maxHeartbeats 400000 in
theorem rdigit (c : UInt8) (w : World) :
    Calls Tryd.prog 73 #[bv c] w fun e w' => e = .returned (.int .i64 (unhexd c)) ∧ w' = w := by
  go_enter Tryd.func73, Tryd.ntmps73
  go_wp2
  go_loop [3] (fun i => ∃ k : Nat, k ≤ 16 ∧ i = .int .i64 k ∧ Hid (∀ j : Nat, j < k → ¬ ((hexd j).toNat : Int) = (c.toNat : Int))) (fun i => 16 - (intOf i).toNat)
  case atStart => exact ⟨0, by omega, rfl, fun j hj => by omega⟩
  case round =>
    obtain ⟨k, hk, rfl, hno⟩ := hrel
    by_cases hlt : k < 16
    · have hi := dig_index k hlt
      by_cases he : ((hexd k).toNat : Int) = (c.toNat : Int)
      · have H := Lib.hid (unhexd_at c k hlt he)
        have hb : (((hexd k).toNat : Int) == (c.toNat : Int)) = true := by simp [he]
        clear he
        go_wp2
        go_ret
        exact ⟨retI H.out.symm, rfl⟩
      · have H := Lib.hid he
        have hb : (((hexd k).toNat : Int) == (c.toNat : Int)) = false := by simp [he]
        clear he
        go_wp2
        go_round
        case rel => exact ⟨k + 1, by omega, by go_num, fun j hj => by
          by_cases hjk : j = k
          · subst hjk; exact H.out
          · exact hno.out j (by omega)⟩
        case measure => simp [intOf]; omega
    · have H := Lib.hid (unhexd_none c fun j hj => hno.out j (by omega))
      clear hno
      go_wp2
      go_ret
      exact ⟨retI H.out.symm, rfl⟩
set_option maxHeartbeats 400000 in
theorem vdigit (c : UInt8) (w : World) (ht : Tab w) :
    Calls Tryd.prog 93 #[bv c] w fun e w' => e = .returned (.int .i64 (unhexd c)) ∧ w' = w := by
  obtain ⟨tt, fr, hg⟩ := ht
  go_enter Tryd.func93, Tryd.ntmps93
  go_wp2_with (refine wpList_load_row rfl 105 _ rfl 2 rfl tt _ fr _ hg Tryd.underlying105 rfl (by kernel_rfl) ?_)
  clear hg
  go_loop [6] (fun i => ∃ k : Nat, k ≤ 16 ∧ i = .int .i64 k ∧ Hid (∀ j : Nat, j < k → ¬ ((hexd j).toNat : Int) = (c.toNat : Int))) (fun i => 16 - (intOf i).toNat)
  case atStart => exact ⟨0, by omega, rfl, fun j hj => by omega⟩
  case round =>
    obtain ⟨k, hk, rfl, hno⟩ := hrel
    by_cases hlt : k < 16
    · have hi := tab_index k hlt
      by_cases he : ((hexd k).toNat : Int) = (c.toNat : Int)
      · have H := Lib.hid (unhexd_at c k hlt he)
        have hb : (((hexd k).toNat : Int) == (c.toNat : Int)) = true := by simp [he]
        clear he
        go_wp2
        go_ret
        exact ⟨retI H.out.symm, rfl⟩
      · have H := Lib.hid he
        have hb : (((hexd k).toNat : Int) == (c.toNat : Int)) = false := by simp [he]
        clear he
        go_wp2
        go_round
        case rel => exact ⟨k + 1, by omega, by go_num, fun j hj => by
          by_cases hjk : j = k
          · subst hjk; exact H.out
          · exact hno.out j (by omega)⟩
        case measure => simp [intOf]; omega
    · have H := Lib.hid (unhexd_none c fun j hj => hno.out j (by omega))
      clear hno
      go_wp2
      go_ret
      exact ⟨retI H.out.symm, rfl⟩
end Go.Proofs.YtnpaoepkpdileaaDoor

/- The two functions safe answer as safeB does, and leave the world alone. -/
import Derived.Test.YtnpaoepkpdileaaDoorProg
import Derived.Test.YtnpaoepkpdileaaDoorPlain
import Derived.WalkKit
import Derived.WalkSpells
import Derived.LoopTactic
import Derived.Lib.Hide
import Derived.Outline
namespace Go.Proofs.YtnpaoepkpdileaaDoor
open Go.RowKit
set_option maxHeartbeats 400000 in
theorem vsafe (s : ByteArray) (w : World) (hs : s.size ≤ maxLen) :
    Calls Tryd.prog 74 #[.string s] w fun e w' => e = .returned (.bool (safeB s.data.toList)) ∧ w = w' := by
  unfold maxLen at hs
  go_enter Tryd.func74, Tryd.ntmps74
  go_wp2
  go_loop [6] (fun i => ∃ k : Nat, k ≤ s.size ∧ i = .int .i64 k ∧ Hid (safeB (s.data.toList.take k) = true)) (fun i => s.size - (intOf i).toNat)
  case atStart => exact ⟨0, Nat.zero_le _, rfl, rfl⟩
  case round =>
    obtain ⟨k, hk, rfl, hsafe⟩ := hrel
    by_cases hlt : k < s.size
    · by_cases hc : okc s[k] = true
      · have H := Lib.hid (safe_step s k hlt hsafe.out hc)
        obtain ⟨c1, c2, c3⟩ := okc_true_inv hc
        clear hc
        go_wp2
        go_round
        case rel => exact ⟨k + 1, by omega, by go_num, H⟩
        case measure => simp [intOf]; omega
      · have H := Lib.hid (safe_stop s k hlt (by simpa using hc))
        have hc' := Lib.hid hc
        clear hc
        go_wp2
        case roundEnd => exact absurd (okc_true (by omega) (by omega) (by simp_all)) hc'.out
        all_goals
          go_ret
          exact ⟨retB H.out.symm, rfl⟩
    · go_wp2
      go_ret
      exact ⟨retB (by rw [← take_all s k (by omega), hsafe.out]), rfl⟩
set_option maxHeartbeats 400000 in
theorem rsafe (s : ByteArray) (w : World) (hs : s.size ≤ maxLen) :
    Calls Tryd.prog 76 #[.string s] w fun e w' => e = .returned (.bool (safeB s.data.toList)) ∧ w = w' := by
  unfold maxLen at hs
  go_enter Tryd.func76, Tryd.ntmps76
  go_wp2
  go_loop [3] (fun i => ∃ k : Nat, k ≤ s.size ∧ i = .int .i64 k ∧ Hid (safeB (s.data.toList.take k) = true)) (fun i => s.size - (intOf i).toNat)
  case atStart => exact ⟨0, Nat.zero_le _, rfl, rfl⟩
  case round =>
    obtain ⟨k, hk, rfl, hsafe⟩ := hrel
    by_cases hlt : k < s.size
    · by_cases hc : okc s[k] = true
      · have H := Lib.hid (safe_step s k hlt hsafe.out hc)
        obtain ⟨c1, c2, c3⟩ := okc_true_inv hc
        clear hc
        go_wp2
        go_round
        case rel => exact ⟨k + 1, by omega, by go_num, H⟩
        case measure => simp [intOf]; omega
      · have H := Lib.hid (safe_stop s k hlt (by simpa using hc))
        have hc' := Lib.hid hc
        clear hc
        go_wp2
        case roundEnd => exact absurd (okc_true (by omega) (by omega) (by simp_all)) hc'.out
        all_goals
          go_ret
          exact ⟨retB H.out.symm, rfl⟩
    · go_wp2
      go_ret
      exact ⟨retB (by rw [← take_all s k (by omega), hsafe.out]), rfl⟩
end Go.Proofs.YtnpaoepkpdileaaDoor

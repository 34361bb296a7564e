import Derived.Test.YthidojkckhjciaaDoorQuote
namespace Go.Proofs.YthidojkckhjciaaDoor
open Go.RowKit
theorem quoteS_awake : quoteS ⟨#[97, 32, 98]⟩ = ⟨#[120, 54, 49, 50, 48, 54, 50]⟩ := by decide +kernel
theorem quoteE_awake : quoteE ⟨#[97, 32, 98]⟩ = 0 := by decide +kernel
theorem awake_true (w : World) (ht : Tab w) : Calls Tryd.prog 11 #[] w fun e w' => e = .returned (.bool true) ∧ Below w.heap.size w w' := by
  have HS := Lib.hid quoteS_awake
  have HE := Lib.hid quoteE_awake
  go_enter Tryd.func11, Tryd.ntmps11
  go_wp2_with (go_at_call 12; refine (vquote _ _ (by unfold maxLen; decide) ht).mono ?_; rintro e w' ⟨rfl, hb⟩; rw [HS.out, HE.out])
  go_ret
  exact ⟨rfl, hb⟩
theorem valueQuotes_walk (s : ByteArray) (w : World) (hm : s.size ≤ maxLen) (ht : Tab w) : Calls Tryd.prog 3 #[.string s] w fun e w' => e = .returned (.bool true) ∧ Below w.heap.size w w' := by
  unfold maxLen at hm
  by_cases hs : s.size ≤ 1000
  · go_enter Tryd.func3, Tryd.ntmps3
    go_wp2_with fail
    refine (vquote _ _ (by unfold maxLen; omega) ht).mono ?_
    rintro e w1 ⟨rfl, hb1⟩
    go_wp2_with fail
    refine (rquote _ _ (by unfold maxLen; omega)).mono ?_
    rintro e w2 ⟨rfl, hb2⟩
    have hb := below_then hb1 hb2
    go_wp2_with fail
    refine (awake_true _ (ht.below hb (Nat.le_refl _))).mono ?_
    rintro e w3 ⟨rfl, hb3⟩
    go_wp2_with fail
    go_ret
    exact ⟨rfl, below_then hb hb3⟩
  · go_enter Tryd.func3, Tryd.ntmps3
    go_wp2_with fail
    refine (awake_true _ ht).mono ?_
    rintro e w3 ⟨rfl, hb3⟩
    go_wp2_with fail
    go_ret
    exact ⟨rfl, hb3⟩
end Go.Proofs.YthidojkckhjciaaDoor

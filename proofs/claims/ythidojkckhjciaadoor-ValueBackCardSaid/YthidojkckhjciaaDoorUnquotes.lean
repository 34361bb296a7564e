/- The walk of the law ValueUnquotes. -/
import Derived.Test.YthidojkckhjciaaDoorRUnq2
import Derived.Test.YthidojkckhjciaaDoorQuotes
namespace Go.Proofs.YthidojkckhjciaaDoor
open Go.RowKit
/-- A block that the call made, still there. -/
theorem lit_cells {w wr : World} {cs : Array Value} {t : TypeId} (hb : Below (w.heap.size + 1) (w.alloc (.cells cs t)) wr) (k : Nat) : wr.cell? ⟨w.heap.size, k, none⟩ = cs[k]? := by
  rw [hb.cell (p := ⟨w.heap.size, k, none⟩) (by show w.heap.size < w.heap.size + 1; omega)]
  exact cell_of_row _ _ _ cs t (0, 0) (heap_alloc_new w _)
theorem below_lit {w wr : World} {o : Obj} (hb : Below (w.heap.size + 1) (w.alloc o) wr) : Below w.heap.size w wr :=
  ((Below.refl _ _).alloc (Nat.le_refl _) o).trans (hb.mono (by omega))
theorem three_strings (a b c : ByteArray) (n : Nat) (ha : a.size ≤ n) (hb : b.size ≤ n) (hc : c.size ≤ n) (k : Nat) (hk : k < 3) :
    ∃ x : ByteArray, x.size ≤ n ∧ (#[Value.string a, .string b, .string c] : Array Value)[k]? = some (.string x) := by
  have : k = 0 ∨ k = 1 ∨ k = 2 := by omega
  rcases this with h | h | h <;> subst h
  · exact ⟨a, ha, rfl⟩
  · exact ⟨b, hb, rfl⟩
  · exact ⟨c, hc, rfl⟩
set_option maxHeartbeats 1000000 in
theorem valueUnquotes_walk (s : ByteArray) (w : World) (hm : s.size ≤ maxLen) (ht : Tab w) : Calls Tryd.prog 4 #[.string s] w fun e w' => e = .returned (.bool true) ∧ Below w.heap.size w w' := by
  unfold maxLen at hm
  by_cases hs : s.size ≤ 1500
  · have h8 : decide (1500 < (s.size : Int)) = false := by simp; omega
    go_enter Tryd.func4, Tryd.ntmps4
    go_wp2_with fail
    go_loopw [4] (fun x wr => ∃ k : Nat, k ≤ 3 ∧ x = .int .i64 (k : Int) ∧ Below (w.heap.size + 1) (w.alloc (.cells #[.string s, .string (⟨#[34]⟩ ++ s ++ ⟨#[34]⟩), .string (⟨#[120]⟩ ++ s)] 9)) wr) (fun i _ => 3 - (intOf i).toNat)
    case atStart => exact ⟨0, by omega, rfl, Below.refl _ _⟩
    case round =>
      obtain ⟨k, hk, rfl, hb⟩ := hrel
      have hbw := below_lit hb
      have htr := ht.below hbw (Nat.le_refl _)
      by_cases hlt : k < 3
      · obtain ⟨x, hx, hcx⟩ := three_strings s (⟨#[34]⟩ ++ s ++ ⟨#[34]⟩) (⟨#[120]⟩ ++ s) 1502 (by omega) (by simp; show 1 + s.size + 1 ≤ 1502; omega) (by simp; show 1 + s.size ≤ 1502; omega) k hlt
        have hc := (lit_cells hb k).trans hcx
        clear hcx
        go_wp2_with fail
        refine (vunquote _ _ (by omega) htr).mono ?_
        rintro e w1 ⟨rfl, hb1⟩
        have hlt1 : w.heap.size < wr.heap.size := by have := hb.size; simp at this; omega
        have hc1 := (hb1.cell (p := ⟨w.heap.size, k, none⟩) hlt1).trans hc
        clear hc
        go_wp2_with fail
        refine (runquote _ _ (by omega)).mono ?_
        rintro e w2 ⟨rfl, hb2⟩
        clear hc1
        go_wp2_with fail
        go_roundw
        case rel => exact ⟨k + 1, by omega, by go_num, hb.trans (((hb1.trans (hb2.mono hb1.size))).mono (by have := hb.size; simpa using this))⟩
        case measure => simp [intOf]; omega
      · go_wp2_with fail
        refine (awake_true _ htr).mono ?_
        rintro e w3 ⟨rfl, hb3⟩
        go_wp2_with fail
        go_ret
        exact ⟨rfl, below_then hbw hb3⟩
  · go_enter Tryd.func4, Tryd.ntmps4
    go_wp2_with fail
    refine (awake_true _ ht).mono ?_
    rintro e w3 ⟨rfl, hb3⟩
    go_wp2_with fail
    go_ret
    exact ⟨rfl, hb3⟩
end Go.Proofs.YthidojkckhjciaaDoor

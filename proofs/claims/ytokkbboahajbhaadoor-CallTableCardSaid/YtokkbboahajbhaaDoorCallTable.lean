/- The walk of the law CallTable. -/
import Derived.Test.YtokkbboahajbhaaDoorCallArg
namespace Go.Proofs.YtokkbboahajbhaaDoor
open Go.RowKit
theorem numC_name : ∀ k : Fin 22, numC (rowC k).name = (k.val : Int) := by decide +kernel
def six (n : Int) (k : Nat) : Int := [n, n.tmod 40, 0, 21, 22, -1].getD k 0
theorem six_cell {w : World} {g : Nat} {t : TypeId} {n : Int} (h : Blk w g t #[.int .i64 n, .int .i64 (n.tmod 40), .int .i64 0, .int .i64 21, .int .i64 22, .int .i64 (-1)]) (k : Nat) (hk : k < 6) : w.cell? ⟨g, k, none⟩ = some (.int .i64 (six n k)) := by
  rw [h.cell]
  match k, hk with
  | 0, _ => rfl
  | 1, _ => rfl
  | 2, _ => rfl
  | 3, _ => rfl
  | 4, _ => rfl
  | 5, _ => rfl
attribute [local irreducible] rowI rowC six numC cellsC
attribute [local go_sem ↓] Go.wp_at_zero Go.wp_at_succ
set_option maxRecDepth 100000 in
set_option maxHeartbeats 4000000 in
theorem callTable_walk (n : Int) (s : ByteArray) (w : World) (_hn : -9223372036854775808 ≤ n ∧ n ≤ 9223372036854775807) (_hs : s.size ≤ maxLen) (hc : Calls10 w) (hT : Tab w) (hW : Pow w) :
    Calls Tryd.prog 5 #[.int .i64 n, .string s] w fun e w' => e = .returned (.bool true) ∧ Below w.heap.size w w' := by
  have HC := Lib.hid (fun (W : World) (h : Below w.heap.size w W) => hc.below h (Nat.le_refl _))
  have HAW := Lib.hid (fun (W : World) (h : Below w.heap.size w W) => awake10 W (hc.below h (Nat.le_refl _)) (hT.below h (Nat.le_refl _)) (hW.below h (Nat.le_refl _)))
  clear hc hT hW _hn _hs
  go_enter Tryd.func5, Tryd.ntmps5
  go_wp2_with fail
  go_loopw [6] (fun i wr => ∃ k : Nat, k ≤ 6 ∧ i = .int .i64 k ∧ Below (w.heap.size + 1) (w.alloc (.cells #[.int .i64 n, .int .i64 (n.tmod 40), .int .i64 0, .int .i64 21, .int .i64 22, .int .i64 (-1)] 3)) wr) (fun i _ => 6 - (intOf i).toNat)
  case atStart => exact ⟨0, by omega, rfl, Below.refl _ _⟩
  case round =>
    obtain ⟨k, hk, rfl, hb⟩ := hrel
    by_cases hlt : k < 6
    · have q := six_cell ((Blk.new w _ _).keep hb (by omega)) k hlt
      generalize six n k = z at *
      have H1 := Lib.hid (fun W h => vshapeI z W h)
      have H2 := Lib.hid (fun W => rshape z W)
      have H3 := Lib.hid (fun W h => vnameI z W h)
      have H4 := Lib.hid (fun W => rname z W)
      generalize rowI z = r at *
      obtain ⟨nm, m, p, l, u⟩ := r
      go_wp2_with fail
      refine (H1.out _ (HC.out _ (unbox hb))).mono ?_
      rintro e w1 ⟨rfl, hb1⟩
      have b1 := box_then hb hb1
      have q1 := (hb1.cell (p := ⟨w.heap.size, k, none⟩) (block_lt_of_cell q)).trans q
      clear hb hb1 q
      go_wp2_with fail
      refine (H2.out _).mono ?_
      rintro e w2 ⟨rfl, hb2⟩
      have b2 := box_then b1 hb2
      have q2 := (hb2.cell (p := ⟨w.heap.size, k, none⟩) (block_lt_of_cell q1)).trans q1
      clear b1 hb2 q1
      go_wp2_with fail
      go_region_held3 (fun w' => Below (w.heap.size + 1) (w.alloc (.cells #[.int .i64 n, .int .i64 (n.tmod 40), .int .i64 0, .int .i64 21, .int .i64 22, .int .i64 (-1)] 3)) w' ∧ w'.cell? ⟨w.heap.size, k, none⟩ = some (.int .i64 z))
        (first | exact ⟨b2.drew, q2⟩ | (refine ⟨box_then (And.left (by assumption)) hb, ?_⟩; exact (hb.cell (p := ⟨w.heap.size, k, none⟩) (block_lt_of_cell (And.right (by assumption)))).trans (And.right (by assumption))))
        (first | (go_at_call 21; refine (H3.out _ (HC.out _ (unbox (And.left (by assumption))))).mono ?_; rintro e w3 ⟨rfl, rfl⟩) | (go_at_call 22; refine (H4.out _).mono ?_; rintro e w3 ⟨rfl, hb⟩))
      all_goals
        go_wp2_with fail
        go_roundw
        case rel => exact ⟨k + 1, by omega, by go_num, And.left (by assumption)⟩
        case measure => simp [intOf]; omega
    · obtain rfl : k = 6 := by omega
      rw [show ((6 : Nat) : Int) = 6 from rfl]
      go_wp2_with fail
      obtain ⟨wo, rfl⟩ : ∃ wo : World, wo = wr := ⟨_, rfl⟩
      have hb0 := unbox hb
      clear hb
      go_loopw [15] (fun i wr => ∃ k : Nat, k ≤ 22 ∧ i = .int .i64 k ∧ Below w.heap.size w wr) (fun i _ => 22 - (intOf i).toNat)
      case atStart => exact ⟨0, by omega, rfl, hb0⟩
      case round =>
        obtain ⟨k, hk, rfl, hb⟩ := hrel
        by_cases hlt : k < 22
        · have HK := Lib.hid (numC_name ⟨k, hlt⟩)
          have H2 := Lib.hid (fun W h => vnameI (k : Int) W h)
          have H3 := Lib.hid (fun W => rname (k : Int) W)
          rw [rowI_nat] at H2 H3
          have HN := Lib.hid (fun W h => vnumber (rowC k).name W h)
          rw [show numC (rowC k).name = (k : Int) from HK.out] at HN
          generalize rowC k = r at *
          obtain ⟨nm, m, p, l, u⟩ := r
          go_wp2_with fail
          refine (H3.out _).mono ?_
          rintro e w1 ⟨rfl, hb1⟩
          have b1 := below_then hb hb1
          clear hb hb1
          go_wp2_with fail
          refine (HN.out _ (HC.out _ b1)).mono ?_
          rintro e w2 ⟨rfl, hb2⟩
          have b2 := below_then b1 hb2
          clear b1 hb2
          go_wp2_with fail
          refine (H2.out _ (HC.out _ b2)).mono ?_
          rintro e w3 ⟨rfl, rfl⟩
          go_wp2_with fail
          refine (H3.out _).mono ?_
          rintro e w4 ⟨rfl, hb4⟩
          have b4 := below_then b2 hb4
          clear b2 hb4
          go_wp2_with fail
          go_roundw
          case rel => exact ⟨k + 1, by omega, by go_num, b4⟩
          case measure => simp [intOf]; omega
        · obtain rfl : k = 22 := by omega
          go_wp2_with fail
          refine (vnumber s _ (HC.out _ hb)).mono ?_
          rintro e w1 ⟨rfl, hb1⟩
          have b1 := below_then hb hb1
          clear hb hb1
          go_wp2_with fail
          refine (rnumber10 s _).mono ?_
          rintro e w2 ⟨rfl, hb2⟩
          have b2 := below_then b1 hb2
          clear b1 hb2
          go_wp2_with fail
          refine (HAW.out _ b2).mono ?_
          rintro e w3 ⟨rfl, hb3⟩
          go_wp2_with fail
          go_ret
          exact ⟨rfl, below_then b2 hb3⟩
end Go.Proofs.YtokkbboahajbhaaDoor

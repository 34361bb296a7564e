/- The walk of the law FieldNames. -/
import Derived.Test.YtnpaoepkpdileaaDoorFieldAwake
namespace Go.Proofs.YtnpaoepkpdileaaDoor
open Go.RowKit
attribute [local irreducible] nameF numF allowB
set_option maxRecDepth 100000 in
set_option maxHeartbeats 4000000 in
theorem fieldNames_walk (f l : Int) (name : ByteArray) (w : World) (hn : FNames w) (ho : FOps w) (ht : Tab w) (hp : Pow w) : Calls Tryd.prog 7 #[.int .i64 f, .int .i64 l, .string name] w fun e w' => e = .returned (.bool true) ∧ Below w.heap.size w w' := by
  have VN := Lib.hid (fun x (W : World) (h : Below w.heap.size w W) => vnameF x W (Glob.below hn h (Nat.le_refl _)))
  have VM := Lib.hid (fun s (W : World) (h : Below w.heap.size w W) => vnumF s W (Glob.below hn h (Nat.le_refl _)))
  have AW := Lib.hid (fun (W : World) (h : Below w.heap.size w W) => awake12 W (Glob.below hn h (Nat.le_refl _)) (Glob.below ho h (Nat.le_refl _)) (ht.below h (Nat.le_refl _)) (hp.below h (Nat.le_refl _)))
  clear hn ho ht hp
  go_enter Tryd.func7, Tryd.ntmps7
  go_wp2_with fail
  go_loopw [7] (fun i wr => ∃ m : Nat, m ≤ 26 ∧ i = .int .i64 ((m : Int) - 1) ∧ Below w.heap.size w wr) (fun i _ => 26 - (intOf i + 1).toNat)
  case atStart => exact ⟨0, by omega, rfl, Below.refl _ _⟩
  case round =>
    obtain ⟨m, hm, rfl, hb⟩ := hrel
    have HB := Lib.hid hb
    clear hb
    by_cases hlt : m < 26
    · go_wp2_with fail
      refine (VN.out _ _ HB.out).mono ?_
      rintro e w1 ⟨rfl, rfl⟩
      go_wp2_with fail
      refine (rnameF _ _).mono ?_
      rintro e w1 ⟨rfl, hb⟩
      have HB1 := Lib.hid (below_then HB.out hb)
      clear hb HB
      go_wp2_with fail
      refine (rnameF _ _).mono ?_
      rintro e w2 ⟨rfl, hb⟩
      have HB2 := Lib.hid (below_then HB1.out hb)
      clear hb HB1
      go_wp2_with fail
      refine (VM.out _ _ HB2.out).mono ?_
      rintro e w3 ⟨rfl, rfl⟩
      go_wp2_with fail
      refine (rnameF _ _).mono ?_
      rintro e w3 ⟨rfl, hb⟩
      have HB3 := Lib.hid (below_then HB2.out hb)
      clear hb HB2
      go_wp2_with fail
      refine (rnumF _ _).mono ?_
      rintro e w4 ⟨rfl, hb⟩
      have HB4 := Lib.hid (below_then HB3.out hb)
      clear hb HB3
      go_wp2_with fail
      go_loop [8] (fun i => ∃ k : Nat, k ≤ 7 ∧ i = .int .i64 (k : Int)) (fun i => 7 - (intOf i).toNat)
      case atStart => exact ⟨0, by omega, rfl⟩
      case round =>
        obtain ⟨k, hk, rfl⟩ := hrel
        by_cases hl : k < 7
        · go_wp2_with fail
          refine (vallowF _ _ _).mono ?_
          rintro e w5 ⟨rfl, rfl⟩
          go_wp2_with fail
          refine (rallowF _ _ _).mono ?_
          rintro e w5 ⟨rfl, rfl⟩
          go_wp2_with fail
          go_round
          case rel => exact ⟨k + 1, by omega, by go_num⟩
          case measure => simp [intOf]; omega
        · go_wp2_with fail
          go_roundw
          case rel => exact ⟨m + 1, by omega, by go_num, HB4.out⟩
          case measure => simp [intOf]; omega
    · go_wp2_with fail
      refine (VN.out _ _ HB.out).mono ?_
      rintro e w1 ⟨rfl, rfl⟩
      go_wp2_with fail
      refine (rnameF _ _).mono ?_
      rintro e w1 ⟨rfl, hb⟩
      have HB1 := Lib.hid (below_then HB.out hb)
      clear hb HB
      go_wp2_with fail
      refine (VM.out _ _ HB1.out).mono ?_
      rintro e w3 ⟨rfl, rfl⟩
      go_wp2_with fail
      refine (rnumF _ _).mono ?_
      rintro e w4 ⟨rfl, hb⟩
      have HB2 := Lib.hid (below_then HB1.out hb)
      clear hb HB1
      go_wp2_with fail
      refine (vallowF _ _ _).mono ?_
      rintro e w5 ⟨rfl, rfl⟩
      go_wp2_with fail
      refine (rallowF _ _ _).mono ?_
      rintro e w5 ⟨rfl, rfl⟩
      go_wp2_with fail
      refine (vallowF _ _ _).mono ?_
      rintro e w5 ⟨rfl, rfl⟩
      go_wp2_with fail
      refine (rallowF _ _ _).mono ?_
      rintro e w5 ⟨rfl, rfl⟩
      go_wp2_with fail
      refine (AW.out _ HB2.out).mono ?_
      rintro e w6 ⟨rfl, hb⟩
      go_wp2_with fail
      go_ret
      exact ⟨rfl, below_then HB2.out hb⟩
end Go.Proofs.YtnpaoepkpdileaaDoor

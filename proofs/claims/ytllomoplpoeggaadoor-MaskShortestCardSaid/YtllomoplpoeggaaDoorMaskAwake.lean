/- The sanity check of the statements of layer 1, and the walk of the law MaskOfs. -/
import Derived.Test.YtllomoplpoeggaaDoorMaskFmt
namespace Go.Proofs.YtllomoplpoeggaaDoor
open Go.RowKit
theorem lit_row {w wr : World} {cs : Array Value} {t : TypeId} (hb : Below (w.heap.size + 1) (w.alloc (.cells cs t)) wr) (k : Nat) : wr.cell? ⟨w.heap.size, k, none⟩ = cs[k]? := by
  rw [hb.cell (p := ⟨w.heap.size, k, none⟩) (by show w.heap.size < w.heap.size + 1; omega)]
  exact cell_of_row _ _ _ cs t (0, 0) (heap_alloc_new w _)
theorem maskS_awake : maskS 135 = ⟨#[48, 45, 50, 44, 55]⟩ := by
  have e : memF 135 0 = [0, 1, 2, 7] := by decide +kernel
  have g : grp [0, 1, 2, 7] = [(0, 2), (7, 7)] := by decide +kernel
  unfold maskS
  rw [if_neg (by omega), if_neg (by omega), e, g]
  simp only [List.map_cons, List.map_nil, rtext]
  rw [if_pos (by decide), if_neg (by decide), Lib.decDigits_one (by decide), Lib.decDigits_one (by decide), Lib.decDigits_one (by decide)]
  rfl
theorem ofM_awake : ofM [7, 0, 1, 2] = 135 ∧ ofE [7, 0, 1, 2] = 0 := by decide +kernel
theorem ints_lit (w : World) (zs : List Int) : IntsAt (w.alloc (.cells (zs.map (Value.int .i64)).toArray 3)) (w.heap.size + 1) (some ⟨w.heap.size, 0, none⟩) zs := fun k hk => by
  refine ⟨⟨w.heap.size, 0, none⟩, rfl, by show w.heap.size < w.heap.size + 1; omega, ?_⟩
  have e : (⟨w.heap.size, 0, none⟩ : Addr).add k = ⟨w.heap.size, k, none⟩ := by
    unfold Addr.add; split
    · rename_i h; subst h; rfl
    · simp
  rw [e, lit_row (Below.refl _ _) k]
  simp [List.getElem?_eq_getElem hk]
attribute [local irreducible] maskS
set_option maxHeartbeats 400000 in
theorem awake1 (w : World) : Calls Tryd.prog 10 #[] w fun e w' => e = .returned (.bool true) ∧ Below w.heap.size w w' := by
  obtain ⟨a1, a2⟩ := ofM_awake
  have A1 := Lib.hid a1
  have A2 := Lib.hid a2
  have HI := Lib.hid (ints_lit w [7, 0, 1, 2])
  have HS := Lib.hid maskS_awake
  have hv : validB 135 = true := by decide
  have HV := Lib.hid hv
  clear a1 a2 hv
  go_enter Tryd.func10, Tryd.ntmps10
  go_wp2_with fail
  refine (vof _ _ _ [7, 0, 1, 2] _ HI.out (by unfold maxLen; decide)).mono ?_
  rintro e w1 ⟨rfl, rfl⟩
  rw [A1.out, A2.out]
  go_wp2_with fail
  refine (vmfmt 135 _ (by omega)).mono ?_
  rintro e w2 ⟨rfl, hb⟩
  rw [HS.out]
  have hbw : Below w.heap.size w w2 := ((Below.refl _ _).alloc (Nat.le_refl _) _).trans (hb.mono (by simp))
  go_wp2_with fail
  refine (vvalid 135 _ (by omega)).mono ?_
  rintro e w3 ⟨rfl, rfl⟩
  rw [HV.out]
  go_wp2_with fail
  go_ret
  exact ⟨rfl, hbw⟩
set_option maxHeartbeats 400000 in
theorem maskOfs_walk (w : World) (A : Option Addr) (zs : List Int) (c : Nat) (hz : IntsAt w w.heap.size A zs) (hl : zs.length ≤ maxLen) :
    Calls Tryd.prog 3 #[.slice A zs.length c] w fun e w' => e = .returned (.bool true) ∧ Below w.heap.size w w' := by
  have HZ := Lib.hid hz
  have HL := Lib.hid hl
  unfold maxLen at hl
  clear hz
  by_cases hn : zs.length ≤ 200
  · go_enter Tryd.func3, Tryd.ntmps3
    go_wp2_with fail
    refine (vof _ _ _ zs _ HZ.out HL.out).mono ?_
    rintro e w1 ⟨rfl, rfl⟩
    go_wp2_with fail
    refine (rof _ _ _ zs _ HZ.out HL.out).mono ?_
    rintro e w1 ⟨rfl, rfl⟩
    go_wp2_with fail
    refine (awake1 _).mono ?_
    rintro e w1 ⟨rfl, hb⟩
    go_wp2_with fail
    go_ret
    exact ⟨rfl, hb⟩
  · go_enter Tryd.func3, Tryd.ntmps3
    go_wp2_with fail
    refine (awake1 _).mono ?_
    rintro e w1 ⟨rfl, hb⟩
    go_wp2_with fail
    go_ret
    exact ⟨rfl, hb⟩
end Go.Proofs.YtllomoplpoeggaaDoor

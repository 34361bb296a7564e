/- List, of the program and of the reference, returns the members. -/
import Derived.Test.YtllomoplpoeggaaDoorMaskList
import Derived.Test.YtllomoplpoeggaaDoorMaskFmt
namespace Go.Proofs.YtllomoplpoeggaaDoor
open Go.RowKit
theorem Tryd.info3 : (Tryd.prog.info? 3).map (fun i => (i.zero, i.size, i.bytes)) = some (some (.int .i64 0), 1, 8) := by kernel_rfl
abbrev natV (n : Nat) : Value := .int .i64 (n : Int)
def LPost (m : Nat) (w : World) (e : Ending) (w' : World) : Prop := ∃ v, e = .returned v ∧ w'.ownsRow w.heap.size 3 1 v (memF m 0).length ((memF m 0).map natV) ∧ Below w.heap.size w w'
theorem memF_len (m k : Nat) : (memF m k).length ≤ 32 := by
  unfold memF
  exact Nat.le_trans (List.length_filter_le _ _) (by simp)
def LeftM (m r : Nat) (R : List Nat) : Prop := R ++ memF r 0 = memF m 0 ∧ r < 4294967296
theorem LeftM.start (m : Nat) : LeftM m (m % 4294967296) [] := ⟨by rw [memF_mod]; rfl, Nat.mod_lt _ (by omega)⟩
theorem LeftM.step {m r : Nat} {R : List Nat} (h : LeftM m r R) (h0 : r ≠ 0) : LeftM m (r &&& (r - 1)) (R ++ [Lib.ctz 64 r]) := by
  refine ⟨?_, Nat.lt_of_le_of_lt Nat.and_le_left h.2⟩
  rw [← h.1, memF_next r h0 h.2]; simp
theorem memF_zero (k : Nat) : memF 0 k = [] := by
  unfold memF; rw [List.filter_eq_nil_iff]; intro x _; simp [hasN]
theorem LeftM.done {m : Nat} {R : List Nat} (h : LeftM m 0 R) : R = memF m 0 := by
  have := h.1; rw [memF_zero] at this; simpa using this
theorem LeftM.len {m r : Nat} {R : List Nat} (h : LeftM m r R) : R.length ≤ 32 := by
  have h1 := memF_len m 0
  rw [← h.1, List.length_append] at h1; omega
theorem and_pred (r : Nat) (h : r < 4294967296) (h0 : r ≠ 0) : bits .and .u64 (r : Int) (IntKind.u64.wrap ((r : Int) - 1)) = ((r &&& (r - 1) : Nat) : Int) := by
  have e : IntKind.u64.wrap ((r : Int) - 1) = ((r - 1 : Nat) : Int) := by rw [IntKind.wrap_u64]; omega
  rw [e, u64_and_nat r _ (by omega) (by omega)]
theorem and_lt (r : Nat) (h0 : r ≠ 0) : r &&& (r - 1) < r := Nat.lt_of_le_of_lt Nat.and_le_right (by omega)
attribute [local irreducible] Lib.ctz
set_option maxRecDepth 100000 in
set_option maxHeartbeats 2000000 in
theorem vlist (m : Nat) (w : World) (hm : m < 18446744073709551616) (hD : Db w) :
    Calls Tryd.prog 18 #[.int .u64 (m : Int)] w (LPost m w) := by
  obtain ⟨i0, hi, hz0, hz1, hz2⟩ := info_parts Tryd.info3
  have ha := and_low m hm
  have HS := Lib.hid (LeftM.start m)
  obtain ⟨q, hq⟩ : ∃ q : Nat, q = m % 4294967296 := ⟨_, rfl⟩
  rw [← hq] at ha HS
  have HQ := Lib.hid hq
  clear hq hm
  go_enter Tryd.func18, Tryd.ntmps18
  go_wp2_with fail
  refine (onesCount _ _).mono ?_
  rintro e w' ⟨n, rfl, hn, rfl⟩
  go_wp2_with (at_make; refine wpList_make_own _ rfl _ _ 22 rfl w.heap.size 3 i0 _ 1 Tryd.underlying22 hi hz0 hz1 _ _ _ n rfl rfl rfl (by rw [hz2]; omega) (by unfold maxLen; omega) (Nat.le_refl _) ?_; intro w1 hown1 hg1)
  have hb1 : Below w.heap.size w w1 := (Below.refl _ _).grown hg1 (Nat.le_refl _) (by simp)
  clear hg1 ha
  go_loopw [3, 4] (fun x v wr => ∃ (r : Nat) (R : List Nat), x = .int .u64 (r : Int) ∧ wr.ownsRow w.heap.size 3 1 v R.length (R.map natV) ∧ Below w.heap.size w wr ∧ Hid (LeftM m r R)) (fun x _ _ => (intOf x).toNat)
  case atStart => exact ⟨q, [], rfl, by simpa using hown1, hb1, HS⟩
  case round =>
    obtain ⟨r, R, rfl, hown, hb, hleft⟩ := hrel
    clear hown1 hb1
    by_cases h0 : r = 0
    · subst h0
      have HR := Lib.hid hleft.out.done
      go_wp2_with fail
      go_ret
      exact ⟨_, rfl, by rw [← HR.out]; exact hown, hb⟩
    · have hr := hleft.out.2
      have hRl := hleft.out.len
      have H := Lib.hid (hleft.out.step h0)
      have HA := Lib.hid (and_pred r hr h0)
      have hlt := and_lt r h0
      have hb0 : ((r : Int) != 0) = true := by simp; omega
      have hr1 : 0 < (r : Int) := by omega
      have HD := Lib.hid (trailing r · h0 hr)
      have hDr := hD.below hb (Nat.le_refl _)
      clear h0 hr
      go_wp2_with fail
      refine (HD.out _ hDr).mono ?_
      rintro e w' ⟨rfl, rfl⟩
      generalize Lib.ctz 64 r = k at *
      go_wp2_with (at_builtin; refine wpList_append_own _ rfl _ _ 22 rfl w.heap.size 3 i0 _ 1 8 Tryd.underlying22 hi hz0 hz1 hz2 rfl (by omega) _ _ _ rfl (hown.alloc _) ⟨wr.heap.size, 0, none⟩ 1 1 [natV k] rfl rfl (cell_one_new _ _ _) (by simp [Value.oneCell']) (by unfold maxLen; omega) (by omega) (by have := hb.size; simp; omega) ?_; intro v2 w2 hown2 hg2 _)
      have hb2 : Below w.heap.size w w2 := below_grown_own (hb.alloc hb.size _) hown (Nat.le_refl _) hg2 (by have := hb.size; simp; omega)
      clear hg2
      go_roundw
      case rel => exact ⟨r &&& (r - 1), R ++ [k], congrArg (Value.int .u64) HA.out, by simpa using hown2, hb2, H⟩
      case measure => rw [HA.out]; simp [intOf]; omega
set_option maxRecDepth 100000 in
set_option maxHeartbeats 2000000 in
theorem rlist (m : Nat) (w : World) (hm : m < 18446744073709551616) :
    Calls Tryd.prog 19 #[.int .u64 (m : Int)] w (LPost m w) := by
  obtain ⟨i0, hi, hz0, hz1, hz2⟩ := info_parts Tryd.info3
  have HM := Lib.hid hm
  clear hm
  go_enter Tryd.func19, Tryd.ntmps19
  go_wp2_with fail
  go_loopw [3, 4] (fun v x wr => ∃ (k : Nat) (R : List Nat), k ≤ 32 ∧ x = .int .i64 (k : Int) ∧ R.length ≤ k ∧ wr.ownsRow w.heap.size 3 1 v R.length (R.map natV) ∧ Below w.heap.size w wr ∧ Hid (R ++ memF m k = memF m 0)) (fun _ x _ => 32 - (intOf x).toNat)
  case atStart => exact ⟨0, [], by omega, rfl, by simp, World.ownsRow_nil _ _ _ _, Below.refl _ _, by exact rfl⟩
  case round =>
    obtain ⟨k, R, hk, rfl, hR, hown, hb, hleft⟩ := hrel
    by_cases hlt : k < 32
    · go_wp2_with fail
      refine (rhas m _ _ HM.out).mono ?_
      rintro e w' ⟨rfl, rfl⟩
      rw [hasB_nat]
      cases hh : hasN m k
      · have HL := Lib.hid (show R ++ memF m (k + 1) = memF m 0 by rw [← memF_no m k hh]; exact hleft.out)
        clear hh
        go_wp2_with fail
        go_roundw
        case rel => exact ⟨k + 1, R, by omega, by go_num, by omega, hown, hb, HL⟩
        case measure => simp [intOf]; omega
      · have HL := Lib.hid (show (R ++ [k]) ++ memF m (k + 1) = memF m 0 by rw [← hleft.out, memF_yes m k hh]; simp)
        clear hh
        go_wp2_with (at_builtin; refine wpList_append_own _ rfl _ _ 22 rfl w.heap.size 3 i0 _ 1 8 Tryd.underlying22 hi hz0 hz1 hz2 rfl (by omega) _ _ _ rfl (hown.alloc _) ⟨wr.heap.size, 0, none⟩ 1 1 [natV k] rfl rfl (cell_one_new _ _ _) (by simp [Value.oneCell']) (by unfold maxLen; omega) (by omega) (by have := hb.size; simp; omega) ?_; intro v2 w2 hown2 hg2 _)
        have hb2 : Below w.heap.size w w2 := below_grown_own (hb.alloc hb.size _) hown (Nat.le_refl _) hg2 (by have := hb.size; simp; omega)
        clear hg2
        go_roundw
        case rel => exact ⟨k + 1, R ++ [k], by omega, by go_num, by simp; omega, by simpa using hown2, hb2, HL⟩
        case measure => simp [intOf]; omega
    · obtain rfl : k = 32 := by omega
      have HR := Lib.hid (show R = memF m 0 by have := hleft.out; rw [memF_end m 32 (by omega)] at this; simpa using this)
      go_wp2_with fail
      go_ret
      exact ⟨_, rfl, by rw [← HR.out]; exact hown, hb⟩
end Go.Proofs.YtllomoplpoeggaaDoor

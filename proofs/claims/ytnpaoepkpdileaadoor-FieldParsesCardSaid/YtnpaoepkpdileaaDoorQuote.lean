/- Quote, of the program and of the reference, returns quoteS and quoteE. -/
import Derived.Test.YtnpaoepkpdileaaDoorSafe
import Derived.Test.YtnpaoepkpdileaaDoorOwn
import Derived.RegionTactic
import Derived.IntWalk
import Derived.Deep.RegionHeld3
import Derived.Deep.AppendLies
import Derived.Deep.QuietTactic
import Derived.BigQuiet
namespace Go.Proofs.YtnpaoepkpdileaaDoor
open Go.RowKit
theorem Tryd.info5 : (Tryd.prog.info? 5).map (fun i => (i.zero, i.size, i.bytes)) = some (some (.int .u8 0), 1, 1) := by kernel_rfl
/-- The variable digits of package value holds the sixteen digits. -/
def tabV : Array Value := #[.int .u8 48, .int .u8 49, .int .u8 50, .int .u8 51, .int .u8 52, .int .u8 53, .int .u8 54, .int .u8 55, .int .u8 56, .int .u8 57, .int .u8 97, .int .u8 98, .int .u8 99, .int .u8 100, .int .u8 101, .int .u8 102]
def Tab (w : World) : Prop := Glob w 2 tabV
theorem Tab.cell {w : World} (h : Tab w) (i : Nat) (hi : i < 16) : w.cell? ⟨2, i, none⟩ = some (bv (hexd i)) := by
  rw [Glob.cell h i]
  have : i = 0 ∨ i = 1 ∨ i = 2 ∨ i = 3 ∨ i = 4 ∨ i = 5 ∨ i = 6 ∨ i = 7 ∨ i = 8 ∨ i = 9 ∨ i = 10 ∨ i = 11 ∨ i = 12 ∨ i = 13 ∨ i = 14 ∨ i = 15 := by omega
  rcases this with h | h | h | h | h | h | h | h | h | h | h | h | h | h | h | h <;> (subst h; rfl)
theorem Tab.below {B : Nat} {w w' : World} (h : Tab w) (hb : Below B w w') (hB : w.heap.size ≤ B) : Tab w' := Glob.below h hb hB
theorem hexrow (s : ByteArray) (k : Nat) (hlt : k < s.size) (xs : List Value) (h : xs = (120 :: hexL (s.data.toList.take k)).map bv) :
    xs ++ [bv (hexd (s[k].toNat / 16)), bv (hexd (s[k].toNat % 16))] = (120 :: hexL (s.data.toList.take (k + 1))).map bv := by
  rw [take_snoc s k hlt, hexL_snoc, h]; simp [hex2]
theorem quoteS_hex (s : ByteArray) (hs : ¬ 640 < s.size) (hu : safeB s.data.toList = false) : quoteS s = ⟨(120 :: hexL s.data.toList).toArray⟩ := by
  unfold quoteS quoteL; rw [if_neg hs, hu]; rfl
theorem quoteS_safe (s : ByteArray) (hs : ¬ 640 < s.size) (hu : safeB s.data.toList = true) : quoteS s = ⟨(34 :: (s.data.toList ++ [34])).toArray⟩ := by
  unfold quoteS quoteL; rw [if_neg hs, hu]; rfl
theorem quoteE_ok (s : ByteArray) (hs : ¬ 640 < s.size) : quoteE s = 0 := if_neg hs
theorem tup {a b : ByteArray} {m n : Int} (h : a = b) (k : m = n) : Ending.returned (.tuple #[.string a, .int .i64 m]) = .returned (.tuple #[.string b, .int .i64 n]) := by rw [h, k]

set_option maxRecDepth 100000 in
set_option maxHeartbeats 1000000 in
theorem vquote_hex (s : ByteArray) (w : World) (hs : s.size ≤ 640) (hu : safeB s.data.toList = false) (ht : Tab w) :
    Calls Tryd.prog 50 #[.string s] w fun e w' => e = .returned (.tuple #[.string (quoteS s), .int .i64 (quoteE s)]) ∧ Below w.heap.size w w' := by
  obtain ⟨i0, hi, hz0, hz1, hz2⟩ := info_parts Tryd.info5
  have h8 : decide (640 < (s.size : Int)) = false := by simp; omega
  have HU := Lib.hid hu
  have HQ := Lib.hid (quoteS_hex s (by omega) hu)
  have HE := Lib.hid (quoteE_ok s (by omega))
  clear hu
  go_enter Tryd.func50, Tryd.ntmps50
  go_wp2_with (first
    | (go_at_call 74; refine (vsafe _ _ (by unfold maxLen; omega)).mono ?_; rintro e w' ⟨rfl, rfl⟩; rw [HU.out])
    | (at_make; refine wpList_make_own _ rfl _ _ 103 rfl w.heap.size 5 i0 _ 1 Tryd.underlying103 hi hz0 hz1 _ _ _ (1 + 2 * s.size) rfl rfl (by omega) (by rw [hz2]; omega) (by unfold maxLen; omega) (Nat.le_refl _) ?_; intro w1 hown1 hg1)
    | (at_builtin; refine wpList_append_own _ rfl _ _ 103 rfl w.heap.size 5 i0 _ 1 1 Tryd.underlying103 hi hz0 hz1 hz2 rfl (by omega) _ _ _ rfl (hown1.alloc _) ⟨w1.heap.size, 0, none⟩ 1 1 [.int .u8 120] rfl rfl (cell_one_new _ _ _) (by simp [Value.oneCell']) (by unfold maxLen; omega) (by omega) (by have := hg1.size; simp; omega) ?_; intro v2 w2 hown2 hg2 _))
  have hb1 : Below w.heap.size w w1 := (Below.refl _ _).grown hg1 (Nat.le_refl _) (by simp)
  have hb2 : Below w.heap.size w w2 := below_grown_own (hb1.alloc hb1.size _) hown1 (Nat.le_refl _) hg2 (by have := hb1.size; simp; omega)
  clear hg1 hg2 hown1 hb1
  go_loopw [4, 24] (fun v i wr => ∃ k : Nat, k ≤ s.size ∧ i = .int .i64 k ∧ wr.ownsRow w.heap.size 5 1 v (1 + 2 * k) ((120 :: hexL (s.data.toList.take k)).map bv) ∧ Below w.heap.size w wr) (fun _ i _ => s.size - (intOf i).toNat)
  case atStart => exact ⟨0, Nat.zero_le _, rfl, by simpa [hexL, bv] using hown2, hb2⟩
  case round =>
    obtain ⟨k, hk, rfl, hown, hb⟩ := hrel
    clear hown2 hb2
    by_cases hlt : k < s.size
    · have q1 : (0:Int) ≤ (s[k].toNat : Int) := by omega
      have q2 : (s[k].toNat : Int) < 256 := by have := s[k].toNat_lt; omega
      have q3 : (0:Int) ≤ (k : Int) := by omega
      have q4 : (k:Int) < (s.size : Int) := by omega
      have q5 : (0:Int) ≤ (s[k].toNat : Int) / 16 := by omega
      have q6 : (s[k].toNat : Int) / 16 < 16 := by omega
      have q7 : (0:Int) ≤ (s[k].toNat : Int) % 16 := by omega
      have q8 : (s[k].toNat : Int) % 16 < 16 := by omega
      have ht' := ht.below hb (Nat.le_refl _)
      have p1 : wr.cell? ⟨2, ((s[k].toNat : Int) / 16).toNat, none⟩ = some (bv (hexd (s[k].toNat / 16))) := by
        rw [show ((s[k].toNat : Int) / 16).toNat = s[k].toNat / 16 by omega]; exact ht'.cell _ (by omega)
      have p2 : wr.cell? ⟨2, ((s[k].toNat : Int) % 16).toNat, none⟩ = some (bv (hexd (s[k].toNat % 16))) := by
        rw [show ((s[k].toNat : Int) % 16).toNat = s[k].toNat % 16 by omega]; exact ht'.cell _ (by omega)
      have lt0 : 2 < wr.heap.size := Glob.lt ht'
      have ne0 : ∀ j, u4.ownBlock = some j → w.heap.size ≤ j := fun j hj => (hown.lt j hj).1
      have NE := Lib.hid (show some 2 ≠ u4.ownBlock from fun e => by have := ne0 _ e.symm; have := Glob.lt ht; omega)
      have q9 : bits .and .u8 (s[k].toNat : Int) 15 = (s[k].toNat : Int) % 16 := u8_and15 _ q1 q2
      clear ht' ne0
      go_wp2_with fail
      go_region_held3 (fun w' => w'.cell? ⟨2, ((s[k].toNat : Int) / 16).toNat, none⟩ = some (bv (hexd (s[k].toNat / 16))) ∧ w'.cell? ⟨2, ((s[k].toNat : Int) % 16).toNat, none⟩ = some (bv (hexd (s[k].toNat % 16)))) (first | go_keep | (go_split_ands; refine ⟨?_, ?_⟩ <;> (rw [hgrow.cell_far _ (by simp <;> omega) NE.out]; assumption)))
        ((refine step_append_lies _ (by rfl) _ _ _ (by rfl) w.heap.size 5 i0 _ 1 1 Tryd.underlying103 hi hz0 hz1 hz2 rfl (by omega) u4 (1 + 2 * k) _ (by rfl) ((hown.alloc _).drew) ⟨wr.heap.size, 0, none⟩ 2 2 [bv (hexd (s[k].toNat / 16)), bv (hexd (s[k].toNat % 16))] (by rfl) (by rfl) (World.news_of_block (cs := #[bv (hexd (s[k].toNat / 16)), bv (hexd (s[k].toNat % 16))]) (t := 5) (fr := (0, 0)) (heap_alloc_new wr _)) (by simp [Value.oneCell']) (by omega) (by unfold maxLen; omega) (by omega) (by have := hb.size; simp; omega) (wr.heap.size + 1) (by simp) ?_; intro gg cap w3 hown3 hgrow hat hlt3))
      all_goals
        have hb3 : Below w.heap.size w w3 := below_grown_own ((hb.alloc hb.size _).drew) hown (Nat.le_refl _) hgrow (by have := hb.size; simp; omega)
        rw [hexrow s k hlt _ rfl] at hown3
        clear hgrow hat q9 p1 p2
        go_wp2
        go_roundw
        case rel => exact ⟨k + 1, by omega, by go_num, by rw [show 1 + 2 * (k + 1) = 1 + 2 * k + 2 by omega]; exact hown3, hb3⟩
        case measure => simp [intOf]; omega
    · obtain rfl : k = s.size := by omega
      rw [take_all s s.size (Nat.le_refl _)] at hown
      have hcv := conv_own (P := Tryd.prog) (src := 103) (dst := 9) hown Tryd.underlying103 Tryd.underlying5 Tryd.underlying9
      rw [← HQ.out] at hcv
      go_wp2
      go_ret2
      exact ⟨tup rfl HE.out.symm, hb⟩
theorem vquote_short (s : ByteArray) (w : World) (hs : s.size ≤ 640) (hu : safeB s.data.toList = true) :
    Calls Tryd.prog 50 #[.string s] w fun e w' => e = .returned (.tuple #[.string (quoteS s), .int .i64 (quoteE s)]) ∧ Below w.heap.size w w' := by
  have HU := Lib.hid hu
  have HQ := Lib.hid (quoteS_safe s (by omega) hu)
  have HE := Lib.hid (quoteE_ok s (by omega))
  clear hu
  go_enter Tryd.func50, Tryd.ntmps50
  go_wp2_with (go_at_call 74; refine (vsafe _ _ (by unfold maxLen; omega)).mono ?_; rintro e w' ⟨rfl, rfl⟩; rw [HU.out])
  go_ret2
  refine ⟨tup ?_ HE.out.symm, Below.refl _ _⟩
  rw [HQ.out]
  rfl
theorem vquote_long (s : ByteArray) (w : World) (hs : ¬ s.size ≤ 640) (hm : s.size ≤ maxLen) :
    Calls Tryd.prog 50 #[.string s] w fun e w' => e = .returned (.tuple #[.string (quoteS s), .int .i64 (quoteE s)]) ∧ Below w.heap.size w w' := by
  unfold maxLen at hm
  have HQ := Lib.hid (show quoteS s = ⟨#[]⟩ from if_pos (by omega))
  have HE := Lib.hid (show quoteE s = 20 from if_pos (by omega))
  go_enter Tryd.func50, Tryd.ntmps50
  go_wp2
  go_ret2
  exact ⟨tup HQ.out.symm HE.out.symm, Below.refl _ _⟩
theorem vquote (s : ByteArray) (w : World) (hm : s.size ≤ maxLen) (ht : Tab w) :
    Calls Tryd.prog 50 #[.string s] w fun e w' => e = .returned (.tuple #[.string (quoteS s), .int .i64 (quoteE s)]) ∧ Below w.heap.size w w' := by
  by_cases hs : s.size ≤ 640
  · cases hu : safeB s.data.toList
    · exact vquote_hex s w hs hu ht
    · exact vquote_short s w hs hu
  · exact vquote_long s w hs hm
def hexS (s : ByteArray) (k : Nat) : ByteArray := ⟨(120 :: hexL (s.data.toList.take k)).toArray⟩
theorem hexS_size (s : ByteArray) (k : Nat) : (hexS s k).size = 1 + 2 * min k s.size := by
  unfold hexS ByteArray.size; simp [hexL_length]; omega
theorem hexS_succ (s : ByteArray) (k : Nat) (h : k < s.size) : hexS s (k + 1) = hexS s k ++ (⟨#[hexd (s[k].toNat / 16)]⟩ ++ ⟨#[hexd (s[k].toNat % 16)]⟩) := by
  unfold hexS; rw [take_snoc s k h, hexL_snoc]
  apply ByteArray.ext; simp [hex2]
theorem digit_slice (x : Int) (h0 : 0 ≤ x) (h1 : x < 16) (w : World) : (Instr.slice 9 (.string ⟨#[48, 49, 50, 51, 52, 53, 54, 55, 56, 57, 97, 98, 99, 100, 101, 102]⟩) (some (.int .u8 x)) (some (.int .u8 (x + 1))) none).run Tryd.prog w = .ok (.string ⟨#[hexd x.toNat]⟩) w := by
  have : x = 0 ∨ x = 1 ∨ x = 2 ∨ x = 3 ∨ x = 4 ∨ x = 5 ∨ x = 6 ∨ x = 7 ∨ x = 8 ∨ x = 9 ∨ x = 10 ∨ x = 11 ∨ x = 12 ∨ x = 13 ∨ x = 14 ∨ x = 15 := by omega
  rcases this with h | h | h | h | h | h | h | h | h | h | h | h | h | h | h | h <;> (subst h; clear h0 h1; show _ = _; kernel_rfl)
set_option maxRecDepth 100000 in
set_option maxHeartbeats 1000000 in
theorem rquote_hex (s : ByteArray) (w : World) (hs : s.size ≤ 640) (hu : safeB s.data.toList = false) :
    Calls Tryd.prog 52 #[.string s] w fun e w' => e = .returned (.tuple #[.string (quoteS s), .int .i64 (quoteE s)]) ∧ Below w.heap.size w w' := by
  have h8 : decide (640 < (s.size : Int)) = false := by simp; omega
  have HU := Lib.hid hu
  have HQ := Lib.hid (quoteS_hex s (by omega) hu)
  have HE := Lib.hid (quoteE_ok s (by omega))
  clear hu
  go_enter Tryd.func52, Tryd.ntmps52
  go_wp2_with (go_at_call 76; refine (rsafe _ _ (by unfold maxLen; omega)).mono ?_; rintro e w' ⟨rfl, rfl⟩; rw [HU.out])
  go_loopw [4, 5] (fun v i wr => ∃ k : Nat, k ≤ s.size ∧ i = .int .i64 k ∧ v = .string (hexS s k) ∧ Below w.heap.size w wr) (fun _ i _ => s.size - (intOf i).toNat)
  case atStart => exact ⟨0, Nat.zero_le _, rfl, rfl, Below.refl _ _⟩
  case round =>
    obtain ⟨k, hk, rfl, rfl, hb⟩ := hrel
    by_cases hlt : k < s.size
    · have q1 : (0:Int) ≤ (s[k].toNat : Int) := by omega
      have q2 : (s[k].toNat : Int) < 256 := by have := s[k].toNat_lt; omega
      have q3 : (0:Int) ≤ (k : Int) := by omega
      have q4 : (k:Int) < (s.size : Int) := by omega
      have q5 : (0:Int) ≤ (s[k].toNat : Int) / 16 := by omega
      have q6 : (s[k].toNat : Int) / 16 < 16 := by omega
      have q7 : (0:Int) ≤ (s[k].toNat : Int) % 16 := by omega
      have q8 : (s[k].toNat : Int) % 16 < 16 := by omega
      have q9 : bits .and .u8 (s[k].toNat : Int) 15 = (s[k].toNat : Int) % 16 := u8_and15 _ q1 q2
      have w1 : IntKind.u8.wrap ((s[k].toNat : Int) / 16 + 1) = (s[k].toNat : Int) / 16 + 1 := by rw [IntKind.wrap_u8]; omega
      have w2 : IntKind.u8.wrap ((s[k].toNat : Int) % 16 + 1) = (s[k].toNat : Int) % 16 + 1 := by rw [IntKind.wrap_u8]; omega
      have hz : (hexS s k).size ≤ 1300 := by rw [hexS_size]; omega
      have d1 := digit_slice _ q5 q6
      have d2 := digit_slice _ q7 q8
      go_wp2_with fail
      go_quiet (fail)
      clear w1 w2 d1 d2 q9 hz
      go_wp2
      go_roundw
      case rel => exact ⟨k + 1, by omega, by go_num, by rw [hexS_succ s k hlt], below_drewN hb _⟩
      case measure => simp [intOf]; omega
    · obtain rfl : k = s.size := by omega
      go_wp2
      go_ret2
      exact ⟨tup (by rw [HQ.out, hexS, take_all s s.size (Nat.le_refl _)]) HE.out.symm, hb⟩
theorem rquote_short (s : ByteArray) (w : World) (hs : s.size ≤ 640) (hu : safeB s.data.toList = true) :
    Calls Tryd.prog 52 #[.string s] w fun e w' => e = .returned (.tuple #[.string (quoteS s), .int .i64 (quoteE s)]) ∧ Below w.heap.size w w' := by
  have HU := Lib.hid hu
  have HQ := Lib.hid (quoteS_safe s (by omega) hu)
  have HE := Lib.hid (quoteE_ok s (by omega))
  clear hu
  go_enter Tryd.func52, Tryd.ntmps52
  go_wp2_with (go_at_call 76; refine (rsafe _ _ (by unfold maxLen; omega)).mono ?_; rintro e w' ⟨rfl, rfl⟩; rw [HU.out])
  go_ret2
  refine ⟨tup ?_ HE.out.symm, Below.refl _ _⟩
  rw [HQ.out]
  rfl
theorem rquote_long (s : ByteArray) (w : World) (hs : ¬ s.size ≤ 640) (hm : s.size ≤ maxLen) :
    Calls Tryd.prog 52 #[.string s] w fun e w' => e = .returned (.tuple #[.string (quoteS s), .int .i64 (quoteE s)]) ∧ Below w.heap.size w w' := by
  unfold maxLen at hm
  have HQ := Lib.hid (show quoteS s = ⟨#[]⟩ from if_pos (by omega))
  have HE := Lib.hid (show quoteE s = 20 from if_pos (by omega))
  go_enter Tryd.func52, Tryd.ntmps52
  go_wp2
  go_ret2
  exact ⟨tup HQ.out.symm HE.out.symm, Below.refl _ _⟩
theorem rquote (s : ByteArray) (w : World) (hm : s.size ≤ maxLen) :
    Calls Tryd.prog 52 #[.string s] w fun e w' => e = .returned (.tuple #[.string (quoteS s), .int .i64 (quoteE s)]) ∧ Below w.heap.size w w' := by
  by_cases hs : s.size ≤ 640
  · cases hu : safeB s.data.toList
    · exact rquote_hex s w hs hu
    · exact rquote_short s w hs hu
  · exact rquote_long s w hs hm
end Go.Proofs.YtnpaoepkpdileaaDoor

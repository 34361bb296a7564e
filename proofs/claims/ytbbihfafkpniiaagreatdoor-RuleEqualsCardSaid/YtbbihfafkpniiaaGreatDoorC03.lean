/- Texts of one proof, laid together. -/
import Derived.Test.YtbbihfafkpniiaaGreatDoorProg
import Derived.Test.YtbbihfafkpniiaaGreatDoorC02
import Derived.WalkKit
import Derived.WalkSpells
import Derived.LoopTactic
import Derived.Lib.Hide
import Derived.Outline
import Derived.RegionTactic
import Derived.IntWalk
import Derived.Deep.RegionHeld3
import Derived.Deep.AppendLies
import Derived.Deep.QuietTactic
import Derived.BigQuiet
import Derived.Laws.Rows
/- The two functions safe answer as safeB does, and leave the world alone. -/
namespace Go.Proofs.YtbbihfafkpniiaaGreatDoor
open Go.RowKit
set_option maxHeartbeats 400000 in
theorem vsafe (s : ByteArray) (w : World) (hs : s.size ≤ maxLen) :
    Calls Tryz.prog 104 #[.string s] w fun e w' => e = .returned (.bool (safeB s.data.toList)) ∧ w = w' := by
  unfold maxLen at hs
  go_enter Tryz.func104, Tryz.ntmps104
  go_wp2
  go_loop [6] (fun i => ∃ k : Nat, k ≤ s.size ∧ i = .int .i64 k ∧ Hid (safeB (s.data.toList.take k) = true)) (fun i => s.size - (intOf i).toNat)
  case atStart => exact ⟨0, Nat.zero_le _, rfl, rfl⟩
  case round =>
    obtain ⟨k, hk, rfl, hsafe⟩ := hrel
    by_cases hlt : k < s.size
    · by_cases hc : okc s[k] = true
      · have H := Lib.hid (safe_step s k hlt hsafe.out hc)
        obtain ⟨c1, c2, c3⟩ := okc_true_inv hc
        clear hc
        go_wp2
        go_round
        case rel => exact ⟨k + 1, by omega, by go_num, H⟩
        case measure => simp [intOf]; omega
      · have H := Lib.hid (safe_stop s k hlt (by simpa using hc))
        have hc' := Lib.hid hc
        clear hc
        go_wp2
        case roundEnd => exact absurd (okc_true (by omega) (by omega) (by simp_all)) hc'.out
        all_goals
          go_ret
          exact ⟨retB H.out.symm, rfl⟩
    · go_wp2
      go_ret
      exact ⟨retB (by rw [← take_all s k (by omega), hsafe.out]), rfl⟩
set_option maxHeartbeats 400000 in
theorem rsafe (s : ByteArray) (w : World) (hs : s.size ≤ maxLen) :
    Calls Tryz.prog 102 #[.string s] w fun e w' => e = .returned (.bool (safeB s.data.toList)) ∧ w = w' := by
  unfold maxLen at hs
  go_enter Tryz.func102, Tryz.ntmps102
  go_wp2
  go_loop [3] (fun i => ∃ k : Nat, k ≤ s.size ∧ i = .int .i64 k ∧ Hid (safeB (s.data.toList.take k) = true)) (fun i => s.size - (intOf i).toNat)
  case atStart => exact ⟨0, Nat.zero_le _, rfl, rfl⟩
  case round =>
    obtain ⟨k, hk, rfl, hsafe⟩ := hrel
    by_cases hlt : k < s.size
    · by_cases hc : okc s[k] = true
      · have H := Lib.hid (safe_step s k hlt hsafe.out hc)
        obtain ⟨c1, c2, c3⟩ := okc_true_inv hc
        clear hc
        go_wp2
        go_round
        case rel => exact ⟨k + 1, by omega, by go_num, H⟩
        case measure => simp [intOf]; omega
      · have H := Lib.hid (safe_stop s k hlt (by simpa using hc))
        have hc' := Lib.hid hc
        clear hc
        go_wp2
        case roundEnd => exact absurd (okc_true (by omega) (by omega) (by simp_all)) hc'.out
        all_goals
          go_ret
          exact ⟨retB H.out.symm, rfl⟩
    · go_wp2
      go_ret
      exact ⟨retB (by rw [← take_all s k (by omega), hsafe.out]), rfl⟩
end Go.Proofs.YtbbihfafkpniiaaGreatDoor
/- Quote, of the program and of the reference, returns quoteS and quoteE. -/
namespace Go.Proofs.YtbbihfafkpniiaaGreatDoor
open Go.RowKit
theorem Tryz.info5 : (Tryz.prog.info? 5).map (fun i => (i.zero, i.size, i.bytes)) = some (some (.int .u8 0), 1, 1) := by kernel_rfl
/-- The variable digits of package value holds the sixteen digits. -/
def tabV : Array Value := #[.int .u8 48, .int .u8 49, .int .u8 50, .int .u8 51, .int .u8 52, .int .u8 53, .int .u8 54, .int .u8 55, .int .u8 56, .int .u8 57, .int .u8 97, .int .u8 98, .int .u8 99, .int .u8 100, .int .u8 101, .int .u8 102]
def Tab (w : World) : Prop := Glob w 5 tabV
theorem Tab.cell {w : World} (h : Tab w) (i : Nat) (hi : i < 16) : w.cell? ⟨5, i, none⟩ = some (bv (hexd i)) := by
  rw [Glob.cell h i]
  have : i = 0 ∨ i = 1 ∨ i = 2 ∨ i = 3 ∨ i = 4 ∨ i = 5 ∨ i = 6 ∨ i = 7 ∨ i = 8 ∨ i = 9 ∨ i = 10 ∨ i = 11 ∨ i = 12 ∨ i = 13 ∨ i = 14 ∨ i = 15 := by omega
  rcases this with h | h | h | h | h | h | h | h | h | h | h | h | h | h | h | h <;> (subst h; rfl)
theorem Tab.below {B : Nat} {w w' : World} (h : Tab w) (hb : Below B w w') (hB : w.heap.size ≤ B) : Tab w' := Glob.below h hb hB
theorem hexrow (s : ByteArray) (k : Nat) (hlt : k < s.size) (xs : List Value) (h : xs = (120 :: hexL (s.data.toList.take k)).map bv) :
    xs ++ [bv (hexd (s[k].toNat / 16)), bv (hexd (s[k].toNat % 16))] = (120 :: hexL (s.data.toList.take (k + 1))).map bv := by
  rw [take_snoc s k hlt, hexL_snoc, h]; simp [hex2]
theorem quoteS_hex (s : ByteArray) (hs : ¬ 640 < s.size) (hu : safeB s.data.toList = false) : quoteS s = ⟨(120 :: hexL s.data.toList).toArray⟩ := by
  unfold quoteS quoteL; rw [if_neg hs, hu]; rfl
theorem quoteS_safe (s : ByteArray) (hs : ¬ 640 < s.size) (hu : safeB s.data.toList = true) : quoteS s = ⟨(34 :: (s.data.toList ++ [34])).toArray⟩ := by
  unfold quoteS quoteL; rw [if_neg hs, hu]; rfl
theorem quoteE_ok (s : ByteArray) (hs : ¬ 640 < s.size) : quoteE s = 0 := if_neg hs
theorem tup {a b : ByteArray} {m n : Int} (h : a = b) (k : m = n) : Ending.returned (.tuple #[.string a, .int .i64 m]) = .returned (.tuple #[.string b, .int .i64 n]) := by rw [h, k]

set_option maxRecDepth 100000 in
set_option maxHeartbeats 1000000 in
theorem vquote_hex (s : ByteArray) (w : World) (hs : s.size ≤ 640) (hu : safeB s.data.toList = false) (ht : Tab w) :
    Calls Tryz.prog 72 #[.string s] w fun e w' => e = .returned (.tuple #[.string (quoteS s), .int .i64 (quoteE s)]) ∧ Below w.heap.size w w' := by
  obtain ⟨i0, hi, hz0, hz1, hz2⟩ := info_parts Tryz.info5
  have h8 : decide (640 < (s.size : Int)) = false := by simp; omega
  have HU := Lib.hid hu
  have HQ := Lib.hid (quoteS_hex s (by omega) hu)
  have HE := Lib.hid (quoteE_ok s (by omega))
  clear hu
  go_enter Tryz.func72, Tryz.ntmps72
  go_wp2_with (first
    | (go_at_call 104; refine (vsafe _ _ (by unfold maxLen; omega)).mono ?_; rintro e w' ⟨rfl, rfl⟩; rw [HU.out])
    | (at_make; refine wpList_make_own _ rfl _ _ 48 rfl w.heap.size 5 i0 _ 1 Tryz.underlying48 hi hz0 hz1 _ _ _ (1 + 2 * s.size) rfl rfl (by omega) (by rw [hz2]; omega) (by unfold maxLen; omega) (Nat.le_refl _) ?_; intro w1 hown1 hg1)
    | (at_builtin; refine wpList_append_own _ rfl _ _ 48 rfl w.heap.size 5 i0 _ 1 1 Tryz.underlying48 hi hz0 hz1 hz2 rfl (by omega) _ _ _ rfl (hown1.alloc _) ⟨w1.heap.size, 0, none⟩ 1 1 [.int .u8 120] rfl rfl (cell_one_new _ _ _) (by simp [Value.oneCell']) (by unfold maxLen; omega) (by omega) (by have := hg1.size; simp; omega) ?_; intro v2 w2 hown2 hg2 _))
  have hb1 : Below w.heap.size w w1 := (Below.refl _ _).grown hg1 (Nat.le_refl _) (by simp)
  have hb2 : Below w.heap.size w w2 := below_grown_own (hb1.alloc hb1.size _) hown1 (Nat.le_refl _) hg2 (by have := hb1.size; simp; omega)
  clear hg1 hg2 hown1 hb1
  go_loopw [4, 24] (fun v i wr => ∃ k : Nat, k ≤ s.size ∧ i = .int .i64 k ∧ wr.ownsRow w.heap.size 5 1 v (1 + 2 * k) ((120 :: hexL (s.data.toList.take k)).map bv) ∧ Below w.heap.size w wr) (fun _ i _ => s.size - (intOf i).toNat)
  case atStart => exact ⟨0, Nat.zero_le _, rfl, by simpa [hexL, bv] using hown2, hb2⟩
  case round =>
    obtain ⟨k, hk, rfl, hown, hb⟩ := hrel
    clear hown2 hb2
    by_cases hlt : k < s.size
    · have q1 : (0:Int) ≤ (s[k].toNat : Int) := by omega
      have q2 : (s[k].toNat : Int) < 256 := by have := s[k].toNat_lt; omega
      have q3 : (0:Int) ≤ (k : Int) := by omega
      have q4 : (k:Int) < (s.size : Int) := by omega
      have q5 : (0:Int) ≤ (s[k].toNat : Int) / 16 := by omega
      have q6 : (s[k].toNat : Int) / 16 < 16 := by omega
      have q7 : (0:Int) ≤ (s[k].toNat : Int) % 16 := by omega
      have q8 : (s[k].toNat : Int) % 16 < 16 := by omega
      have ht' := ht.below hb (Nat.le_refl _)
      have p1 : wr.cell? ⟨5, ((s[k].toNat : Int) / 16).toNat, none⟩ = some (bv (hexd (s[k].toNat / 16))) := by
        rw [show ((s[k].toNat : Int) / 16).toNat = s[k].toNat / 16 by omega]; exact ht'.cell _ (by omega)
      have p2 : wr.cell? ⟨5, ((s[k].toNat : Int) % 16).toNat, none⟩ = some (bv (hexd (s[k].toNat % 16))) := by
        rw [show ((s[k].toNat : Int) % 16).toNat = s[k].toNat % 16 by omega]; exact ht'.cell _ (by omega)
      have lt0 : 5 < wr.heap.size := Glob.lt ht'
      have ne0 : ∀ j, u4.ownBlock = some j → w.heap.size ≤ j := fun j hj => (hown.lt j hj).1
      have NE := Lib.hid (show some 5 ≠ u4.ownBlock from fun e => by have := ne0 _ e.symm; have := Glob.lt ht; omega)
      have q9 : bits .and .u8 (s[k].toNat : Int) 15 = (s[k].toNat : Int) % 16 := u8_and15 _ q1 q2
      clear ht' ne0
      go_wp2_with fail
      go_region_held3 (fun w' => w'.cell? ⟨5, ((s[k].toNat : Int) / 16).toNat, none⟩ = some (bv (hexd (s[k].toNat / 16))) ∧ w'.cell? ⟨5, ((s[k].toNat : Int) % 16).toNat, none⟩ = some (bv (hexd (s[k].toNat % 16)))) (first | go_keep | (go_split_ands; refine ⟨?_, ?_⟩ <;> (rw [hgrow.cell_far _ (by simp <;> omega) NE.out]; assumption)))
        ((refine step_append_lies _ (by rfl) _ _ _ (by rfl) w.heap.size 5 i0 _ 1 1 Tryz.underlying48 hi hz0 hz1 hz2 rfl (by omega) u4 (1 + 2 * k) _ (by rfl) ((hown.alloc _).drew) ⟨wr.heap.size, 0, none⟩ 2 2 [bv (hexd (s[k].toNat / 16)), bv (hexd (s[k].toNat % 16))] (by rfl) (by rfl) (World.news_of_block (cs := #[bv (hexd (s[k].toNat / 16)), bv (hexd (s[k].toNat % 16))]) (t := 5) (fr := (0, 0)) (heap_alloc_new wr _)) (by simp [Value.oneCell']) (by omega) (by unfold maxLen; omega) (by omega) (by have := hb.size; simp; omega) (wr.heap.size + 1) (by simp) ?_; intro gg cap w3 hown3 hgrow hat hlt3))
      all_goals
        have hb3 : Below w.heap.size w w3 := below_grown_own ((hb.alloc hb.size _).drew) hown (Nat.le_refl _) hgrow (by have := hb.size; simp; omega)
        rw [hexrow s k hlt _ rfl] at hown3
        clear hgrow hat q9 p1 p2
        go_wp2
        go_roundw
        case rel => exact ⟨k + 1, by omega, by go_num, by rw [show 1 + 2 * (k + 1) = 1 + 2 * k + 2 by omega]; exact hown3, hb3⟩
        case measure => simp [intOf]; omega
    · obtain rfl : k = s.size := by omega
      rw [take_all s s.size (Nat.le_refl _)] at hown
      have hcv := conv_own (P := Tryz.prog) (src := 48) (dst := 9) hown Tryz.underlying48 Tryz.underlying5 Tryz.underlying9
      rw [← HQ.out] at hcv
      go_wp2
      go_ret2
      exact ⟨tup rfl HE.out.symm, hb⟩
theorem vquote_short (s : ByteArray) (w : World) (hs : s.size ≤ 640) (hu : safeB s.data.toList = true) :
    Calls Tryz.prog 72 #[.string s] w fun e w' => e = .returned (.tuple #[.string (quoteS s), .int .i64 (quoteE s)]) ∧ Below w.heap.size w w' := by
  have HU := Lib.hid hu
  have HQ := Lib.hid (quoteS_safe s (by omega) hu)
  have HE := Lib.hid (quoteE_ok s (by omega))
  clear hu
  go_enter Tryz.func72, Tryz.ntmps72
  go_wp2_with (go_at_call 104; refine (vsafe _ _ (by unfold maxLen; omega)).mono ?_; rintro e w' ⟨rfl, rfl⟩; rw [HU.out])
  go_ret2
  refine ⟨tup ?_ HE.out.symm, Below.refl _ _⟩
  rw [HQ.out]
  rfl
theorem vquote_long (s : ByteArray) (w : World) (hs : ¬ s.size ≤ 640) (hm : s.size ≤ maxLen) :
    Calls Tryz.prog 72 #[.string s] w fun e w' => e = .returned (.tuple #[.string (quoteS s), .int .i64 (quoteE s)]) ∧ Below w.heap.size w w' := by
  unfold maxLen at hm
  have HQ := Lib.hid (show quoteS s = ⟨#[]⟩ from if_pos (by omega))
  have HE := Lib.hid (show quoteE s = 20 from if_pos (by omega))
  go_enter Tryz.func72, Tryz.ntmps72
  go_wp2
  go_ret2
  exact ⟨tup HQ.out.symm HE.out.symm, Below.refl _ _⟩
theorem vquote (s : ByteArray) (w : World) (hm : s.size ≤ maxLen) (ht : Tab w) :
    Calls Tryz.prog 72 #[.string s] w fun e w' => e = .returned (.tuple #[.string (quoteS s), .int .i64 (quoteE s)]) ∧ Below w.heap.size w w' := by
  by_cases hs : s.size ≤ 640
  · cases hu : safeB s.data.toList
    · exact vquote_hex s w hs hu ht
    · exact vquote_short s w hs hu
  · exact vquote_long s w hs hm
def hexS (s : ByteArray) (k : Nat) : ByteArray := ⟨(120 :: hexL (s.data.toList.take k)).toArray⟩
theorem hexS_size (s : ByteArray) (k : Nat) : (hexS s k).size = 1 + 2 * min k s.size := by
  unfold hexS ByteArray.size; simp [hexL_length]; omega
theorem hexS_succ (s : ByteArray) (k : Nat) (h : k < s.size) : hexS s (k + 1) = hexS s k ++ (⟨#[hexd (s[k].toNat / 16)]⟩ ++ ⟨#[hexd (s[k].toNat % 16)]⟩) := by
  unfold hexS; rw [take_snoc s k h, hexL_snoc]
  apply ByteArray.ext; simp [hex2]
theorem digit_slice (x : Int) (h0 : 0 ≤ x) (h1 : x < 16) (w : World) : (Instr.slice 9 (.string ⟨#[48, 49, 50, 51, 52, 53, 54, 55, 56, 57, 97, 98, 99, 100, 101, 102]⟩) (some (.int .u8 x)) (some (.int .u8 (x + 1))) none).run Tryz.prog w = .ok (.string ⟨#[hexd x.toNat]⟩) w := by
  have : x = 0 ∨ x = 1 ∨ x = 2 ∨ x = 3 ∨ x = 4 ∨ x = 5 ∨ x = 6 ∨ x = 7 ∨ x = 8 ∨ x = 9 ∨ x = 10 ∨ x = 11 ∨ x = 12 ∨ x = 13 ∨ x = 14 ∨ x = 15 := by omega
  rcases this with h | h | h | h | h | h | h | h | h | h | h | h | h | h | h | h <;> (subst h; clear h0 h1; show _ = _; kernel_rfl)
set_option maxRecDepth 100000 in
set_option maxHeartbeats 1000000 in
theorem rquote_hex (s : ByteArray) (w : World) (hs : s.size ≤ 640) (hu : safeB s.data.toList = false) :
    Calls Tryz.prog 66 #[.string s] w fun e w' => e = .returned (.tuple #[.string (quoteS s), .int .i64 (quoteE s)]) ∧ Below w.heap.size w w' := by
  have h8 : decide (640 < (s.size : Int)) = false := by simp; omega
  have HU := Lib.hid hu
  have HQ := Lib.hid (quoteS_hex s (by omega) hu)
  have HE := Lib.hid (quoteE_ok s (by omega))
  clear hu
  go_enter Tryz.func66, Tryz.ntmps66
  go_wp2_with (go_at_call 102; refine (rsafe _ _ (by unfold maxLen; omega)).mono ?_; rintro e w' ⟨rfl, rfl⟩; rw [HU.out])
  go_loopw [4, 5] (fun v i wr => ∃ k : Nat, k ≤ s.size ∧ i = .int .i64 k ∧ v = .string (hexS s k) ∧ Below w.heap.size w wr) (fun _ i _ => s.size - (intOf i).toNat)
  case atStart => exact ⟨0, Nat.zero_le _, rfl, rfl, Below.refl _ _⟩
  case round =>
    obtain ⟨k, hk, rfl, rfl, hb⟩ := hrel
    by_cases hlt : k < s.size
    · have q1 : (0:Int) ≤ (s[k].toNat : Int) := by omega
      have q2 : (s[k].toNat : Int) < 256 := by have := s[k].toNat_lt; omega
      have q3 : (0:Int) ≤ (k : Int) := by omega
      have q4 : (k:Int) < (s.size : Int) := by omega
      have q5 : (0:Int) ≤ (s[k].toNat : Int) / 16 := by omega
      have q6 : (s[k].toNat : Int) / 16 < 16 := by omega
      have q7 : (0:Int) ≤ (s[k].toNat : Int) % 16 := by omega
      have q8 : (s[k].toNat : Int) % 16 < 16 := by omega
      have q9 : bits .and .u8 (s[k].toNat : Int) 15 = (s[k].toNat : Int) % 16 := u8_and15 _ q1 q2
      have w1 : IntKind.u8.wrap ((s[k].toNat : Int) / 16 + 1) = (s[k].toNat : Int) / 16 + 1 := by rw [IntKind.wrap_u8]; omega
      have w2 : IntKind.u8.wrap ((s[k].toNat : Int) % 16 + 1) = (s[k].toNat : Int) % 16 + 1 := by rw [IntKind.wrap_u8]; omega
      have hz : (hexS s k).size ≤ 1300 := by rw [hexS_size]; omega
      have d1 := digit_slice _ q5 q6
      have d2 := digit_slice _ q7 q8
      go_wp2_with fail
      go_quiet (fail)
      clear w1 w2 d1 d2 q9 hz
      go_wp2
      go_roundw
      case rel => exact ⟨k + 1, by omega, by go_num, by rw [hexS_succ s k hlt], below_drewN hb _⟩
      case measure => simp [intOf]; omega
    · obtain rfl : k = s.size := by omega
      go_wp2
      go_ret2
      exact ⟨tup (by rw [HQ.out, hexS, take_all s s.size (Nat.le_refl _)]) HE.out.symm, hb⟩
theorem rquote_short (s : ByteArray) (w : World) (hs : s.size ≤ 640) (hu : safeB s.data.toList = true) :
    Calls Tryz.prog 66 #[.string s] w fun e w' => e = .returned (.tuple #[.string (quoteS s), .int .i64 (quoteE s)]) ∧ Below w.heap.size w w' := by
  have HU := Lib.hid hu
  have HQ := Lib.hid (quoteS_safe s (by omega) hu)
  have HE := Lib.hid (quoteE_ok s (by omega))
  clear hu
  go_enter Tryz.func66, Tryz.ntmps66
  go_wp2_with (go_at_call 102; refine (rsafe _ _ (by unfold maxLen; omega)).mono ?_; rintro e w' ⟨rfl, rfl⟩; rw [HU.out])
  go_ret2
  refine ⟨tup ?_ HE.out.symm, Below.refl _ _⟩
  rw [HQ.out]
  rfl
theorem rquote_long (s : ByteArray) (w : World) (hs : ¬ s.size ≤ 640) (hm : s.size ≤ maxLen) :
    Calls Tryz.prog 66 #[.string s] w fun e w' => e = .returned (.tuple #[.string (quoteS s), .int .i64 (quoteE s)]) ∧ Below w.heap.size w w' := by
  unfold maxLen at hm
  have HQ := Lib.hid (show quoteS s = ⟨#[]⟩ from if_pos (by omega))
  have HE := Lib.hid (show quoteE s = 20 from if_pos (by omega))
  go_enter Tryz.func66, Tryz.ntmps66
  go_wp2
  go_ret2
  exact ⟨tup HQ.out.symm HE.out.symm, Below.refl _ _⟩
theorem rquote (s : ByteArray) (w : World) (hm : s.size ≤ maxLen) :
    Calls Tryz.prog 66 #[.string s] w fun e w' => e = .returned (.tuple #[.string (quoteS s), .int .i64 (quoteE s)]) ∧ Below w.heap.size w w' := by
  by_cases hs : s.size ≤ 640
  · cases hu : safeB s.data.toList
    · exact rquote_hex s w hs hu
    · exact rquote_short s w hs hu
  · exact rquote_long s w hs hm
end Go.Proofs.YtbbihfafkpniiaaGreatDoor
/- digit of package value, and value of the reference: the value of a hexadecimal digit. -/
namespace Go.Proofs.YtbbihfafkpniiaaGreatDoor
open Go.RowKit
/-- The value of a hexadecimal digit, or -1. -/
def unhexd (c : UInt8) : Int := if 48 ≤ c.toNat ∧ c.toNat ≤ 57 then c.toNat - 48 else if 97 ≤ c.toNat ∧ c.toNat ≤ 102 then c.toNat - 87 else -1
theorem unhexd_hexd : ∀ k : Fin 16, unhexd (hexd k.val) = (k.val : Int) := by decide +kernel
theorem hexd_unhexd : ∀ c : Fin 256, unhexd (UInt8.ofNat c.val) ≠ -1 → 0 ≤ unhexd (UInt8.ofNat c.val) ∧ unhexd (UInt8.ofNat c.val) < 16 ∧ hexd (unhexd (UInt8.ofNat c.val)).toNat = UInt8.ofNat c.val := by decide +kernel
theorem unhexd_at (c : UInt8) (k : Nat) (hk : k < 16) (h : ((hexd k).toNat : Int) = (c.toNat : Int)) : unhexd c = k := by
  have : hexd k = c := UInt8.toNat.inj (by omega)
  rw [← this]; exact unhexd_hexd ⟨k, hk⟩
theorem unhexd_prop (c : UInt8) (h : unhexd c ≠ -1) : 0 ≤ unhexd c ∧ unhexd c < 16 ∧ hexd (unhexd c).toNat = c := by
  have := hexd_unhexd ⟨c.toNat, c.toNat_lt⟩
  simp only [UInt8.ofNat_toNat] at this
  exact this h
theorem unhexd_none (c : UInt8) (h : ∀ k : Nat, k < 16 → ¬ ((hexd k).toNat : Int) = (c.toNat : Int)) : unhexd c = -1 := by
  by_cases hc : unhexd c = -1
  · exact hc
  · obtain ⟨h1, h2, h3⟩ := unhexd_prop c hc
    exact absurd (by rw [h3]) (h (unhexd c).toNat (by omega))
theorem unhexd_bounds (c : UInt8) : -1 ≤ unhexd c ∧ unhexd c < 16 := by
  by_cases hc : unhexd c = -1
  · omega
  · have := unhexd_prop c hc; omega
theorem tab_index (k : Nat) (hk : k < 16) (w : World) : (Instr.index 110 (.agg tabV) (.int .i64 k)).run Tryz.prog w = .ok (bv (hexd k)) w := by
  have : k = 0 ∨ k = 1 ∨ k = 2 ∨ k = 3 ∨ k = 4 ∨ k = 5 ∨ k = 6 ∨ k = 7 ∨ k = 8 ∨ k = 9 ∨ k = 10 ∨ k = 11 ∨ k = 12 ∨ k = 13 ∨ k = 14 ∨ k = 15 := by omega
  rcases this with h | h | h | h | h | h | h | h | h | h | h | h | h | h | h | h <;> (subst h; clear hk; show _ = _; kernel_rfl)
theorem dig_index (k : Nat) (hk : k < 16) (w : World) : (Instr.index 9 (.string ⟨#[48, 49, 50, 51, 52, 53, 54, 55, 56, 57, 97, 98, 99, 100, 101, 102]⟩) (.int .i64 k)).run Tryz.prog w = .ok (bv (hexd k)) w := by
  have : k = 0 ∨ k = 1 ∨ k = 2 ∨ k = 3 ∨ k = 4 ∨ k = 5 ∨ k = 6 ∨ k = 7 ∨ k = 8 ∨ k = 9 ∨ k = 10 ∨ k = 11 ∨ k = 12 ∨ k = 13 ∨ k = 14 ∨ k = 15 := by omega
  rcases this with h | h | h | h | h | h | h | h | h | h | h | h | h | h | h | h <;> (subst h; clear hk; show _ = _; kernel_rfl)
set_option maxHeartbeats 400000 in
theorem rdigit (c : UInt8) (w : World) :
    Calls Tryz.prog 120 #[bv c] w fun e w' => e = .returned (.int .i64 (unhexd c)) ∧ w' = w := by
  go_enter Tryz.func120, Tryz.ntmps120
  go_wp2
  go_loop [3] (fun i => ∃ k : Nat, k ≤ 16 ∧ i = .int .i64 k ∧ Hid (∀ j : Nat, j < k → ¬ ((hexd j).toNat : Int) = (c.toNat : Int))) (fun i => 16 - (intOf i).toNat)
  case atStart => exact ⟨0, by omega, rfl, fun j hj => by omega⟩
  case round =>
    obtain ⟨k, hk, rfl, hno⟩ := hrel
    by_cases hlt : k < 16
    · have hi := dig_index k hlt
      by_cases he : ((hexd k).toNat : Int) = (c.toNat : Int)
      · have H := Lib.hid (unhexd_at c k hlt he)
        have hb : (((hexd k).toNat : Int) == (c.toNat : Int)) = true := by simp [he]
        clear he
        go_wp2
        go_ret
        exact ⟨retI H.out.symm, rfl⟩
      · have H := Lib.hid he
        have hb : (((hexd k).toNat : Int) == (c.toNat : Int)) = false := by simp [he]
        clear he
        go_wp2
        go_round
        case rel => exact ⟨k + 1, by omega, by go_num, fun j hj => by
          by_cases hjk : j = k
          · subst hjk; exact H.out
          · exact hno.out j (by omega)⟩
        case measure => simp [intOf]; omega
    · have H := Lib.hid (unhexd_none c fun j hj => hno.out j (by omega))
      clear hno
      go_wp2
      go_ret
      exact ⟨retI H.out.symm, rfl⟩
set_option maxHeartbeats 400000 in
theorem vdigit (c : UInt8) (w : World) (ht : Tab w) :
    Calls Tryz.prog 150 #[bv c] w fun e w' => e = .returned (.int .i64 (unhexd c)) ∧ w' = w := by
  obtain ⟨tt, fr, hg⟩ := ht
  go_enter Tryz.func150, Tryz.ntmps150
  go_wp2_with (refine wpList_load_row rfl 110 _ rfl 5 rfl tt _ fr _ hg Tryz.underlying110 rfl (by kernel_rfl) ?_)
  clear hg
  go_loop [6] (fun i => ∃ k : Nat, k ≤ 16 ∧ i = .int .i64 k ∧ Hid (∀ j : Nat, j < k → ¬ ((hexd j).toNat : Int) = (c.toNat : Int))) (fun i => 16 - (intOf i).toNat)
  case atStart => exact ⟨0, by omega, rfl, fun j hj => by omega⟩
  case round =>
    obtain ⟨k, hk, rfl, hno⟩ := hrel
    by_cases hlt : k < 16
    · have hi := tab_index k hlt
      by_cases he : ((hexd k).toNat : Int) = (c.toNat : Int)
      · have H := Lib.hid (unhexd_at c k hlt he)
        have hb : (((hexd k).toNat : Int) == (c.toNat : Int)) = true := by simp [he]
        clear he
        go_wp2
        go_ret
        exact ⟨retI H.out.symm, rfl⟩
      · have H := Lib.hid he
        have hb : (((hexd k).toNat : Int) == (c.toNat : Int)) = false := by simp [he]
        clear he
        go_wp2
        go_round
        case rel => exact ⟨k + 1, by omega, by go_num, fun j hj => by
          by_cases hjk : j = k
          · subst hjk; exact H.out
          · exact hno.out j (by omega)⟩
        case measure => simp [intOf]; omega
    · have H := Lib.hid (unhexd_none c fun j hj => hno.out j (by omega))
      clear hno
      go_wp2
      go_ret
      exact ⟨retI H.out.symm, rfl⟩
end Go.Proofs.YtbbihfafkpniiaaGreatDoor
/- What Unquote reads: the text t with quoteL t = l, if there is one of at most 640 bytes. -/
namespace Go.Proofs.YtbbihfafkpniiaaGreatDoor
def pairc (a b : UInt8) : UInt8 := UInt8.ofNat (16 * (unhexd a).toNat + (unhexd b).toNat)
def unhexL : List UInt8 → Option (List UInt8)
  | [] => some []
  | [_] => none
  | a :: b :: r => if unhexd a < 0 ∨ unhexd b < 0 then none else (unhexL r).map (pairc a b :: ·)
theorem pairc_val (a b : UInt8) (ha : 0 ≤ unhexd a) (hb : 0 ≤ unhexd b) : ((pairc a b).toNat : Int) = 16 * unhexd a + unhexd b := by
  have h1 := unhexd_bounds a
  have h2 := unhexd_bounds b
  unfold pairc
  rw [UInt8.toNat_ofNat']
  omega
theorem hex2_pairc (a b : UInt8) (ha : 0 ≤ unhexd a) (hb : 0 ≤ unhexd b) : hex2 (pairc a b) = [a, b] := by
  have h := pairc_val a b ha hb
  have h1 := unhexd_prop a (by omega)
  have h2 := unhexd_prop b (by omega)
  unfold hex2
  rw [show (pairc a b).toNat / 16 = (unhexd a).toNat by omega, show (pairc a b).toNat % 16 = (unhexd b).toNat by omega, h1.2.2, h2.2.2]
theorem unhexd_hexd' (n : Nat) (h : n < 16) : unhexd (hexd n) = n := unhexd_hexd ⟨n, h⟩
theorem pairc_hex2 (c : UInt8) : pairc (hexd (c.toNat / 16)) (hexd (c.toNat % 16)) = c := by
  have hc := c.toNat_lt
  unfold pairc
  rw [unhexd_hexd' _ (by omega), unhexd_hexd' _ (by omega)]
  apply UInt8.toNat.inj
  rw [UInt8.toNat_ofNat']; omega
theorem unhexL_hexL : ∀ t : List UInt8, unhexL (hexL t) = some t
  | [] => rfl
  | c :: t => by
    have e : hexL (c :: t) = hexd (c.toNat / 16) :: hexd (c.toNat % 16) :: hexL t := rfl
    have hc := c.toNat_lt
    rw [e, unhexL, if_neg (by rw [unhexd_hexd' _ (by omega), unhexd_hexd' _ (by omega)]; omega), unhexL_hexL t, pairc_hex2]; rfl
theorem hexL_unhexL : ∀ (l t : List UInt8), unhexL l = some t → hexL t = l
  | [], t, h => by injection h with h; subst h; rfl
  | [_], t, h => by cases h
  | a :: b :: r, t, h => by
    rw [unhexL] at h
    split at h
    · cases h
    · rename_i hn
      cases hr : unhexL r with
      | none => rw [hr] at h; cases h
      | some u =>
        rw [hr] at h
        injection h with h
        subst h
        have e : hexL (pairc a b :: u) = hex2 (pairc a b) ++ hexL u := rfl
        rw [e, hex2_pairc a b (by omega) (by omega), hexL_unhexL r u hr]; rfl
/-- The text whose quoted form is l. -/
def Quotes (l t : List UInt8) : Prop := quoteL t = l ∧ t.length ≤ 640
theorem safe_nil : safeB [] = true := rfl
theorem Quotes.unique {l t u : List UInt8} (h : Quotes l t) (k : Quotes l u) : t = u := by
  have h1 := h.1; have k1 := k.1
  unfold quoteL at h1 k1
  cases ht : safeB t <;> cases hu : safeB u <;> simp only [ht, hu] at h1 k1
  · rw [← k1] at h1
    simp only [Bool.false_eq_true, if_false, List.cons.injEq, true_and] at h1
    have := unhexL_hexL t
    rw [h1, unhexL_hexL u] at this
    injection this with this; exact this.symm
  · rw [← k1] at h1; simp at h1
  · rw [← k1] at h1; simp at h1
  · rw [← k1] at h1
    simpa using h1
/-- What Unquote returns: the text, if there is one. -/
def unqO (l : List UInt8) : Option (List UInt8) :=
  if 2 ≤ l.length ∧ l.head? = some 34 ∧ l.getLast? = some 34 then
    let t := l.tail.dropLast
    if safeB t ∧ t.length ≤ 640 then some t else none
  else match l with
    | [] => none
    | c :: r => if c = 120 then match unhexL r with
        | some t => if safeB t = false ∧ t.length ≤ 640 then some t else none
        | none => none
      else none
theorem unqO_of {l t : List UInt8} (h : Quotes l t) : unqO l = some t := by
  obtain ⟨h1, h2⟩ := h
  unfold quoteL at h1
  cases ht : safeB t <;> simp only [ht] at h1
  · subst h1
    unfold unqO
    simp [unhexL_hexL, ht, h2]
  · subst h1
    have hl : (34 :: (t ++ [34])).getLast? = some (34 : UInt8) := by
      rw [← List.cons_append, List.getLast?_append]; rfl
    unfold unqO
    simp [ht, h2, hl]
theorem of_unqO {l t : List UInt8} (h : unqO l = some t) : Quotes l t := by
  unfold unqO at h
  split at h
  · rename_i hc
    obtain ⟨hc1, hc2, hc3⟩ := hc
    simp only at h
    split at h
    · rename_i hs
      injection h with h
      subst h
      refine ⟨?_, hs.2⟩
      unfold quoteL
      rw [hs.1]
      match l, hc1, hc2, hc3 with
      | a :: b :: r, _, hc2, hc3 =>
        simp at hc2
        subst hc2
        have hne : b :: r ≠ [] := by simp
        have : (34 :: b :: r).getLast? = (b :: r).getLast? := by simp [List.getLast?_cons_cons]
        rw [this, List.getLast?_eq_some_getLast hne] at hc3
        injection hc3 with hc3
        simp only [if_true, List.tail_cons]
        have hd := List.dropLast_concat_getLast hne
        rw [hc3] at hd
        exact congrArg (List.cons 34) hd
    · cases h
  · match l, h with
    | [], h => cases h
    | c :: r, h =>
      simp only at h
      split at h
      · rename_i hc; subst hc
        cases hr : unhexL r with
        | none => rw [hr] at h; cases h
        | some u =>
          rw [hr] at h
          simp only at h
          split at h
          · rename_i hs
            injection h with h
            subst h
            refine ⟨?_, hs.2⟩
            unfold quoteL
            rw [hs.1, hexL_unhexL r u hr]; rfl
          · cases h
      · cases h
theorem unqO_none {l : List UInt8} (h : ∀ t, ¬ Quotes l t) : unqO l = none := by
  cases hu : unqO l with
  | none => rfl
  | some t => exact absurd (of_unqO hu) (h t)
def unqS (s : ByteArray) : ByteArray := match unqO s.data.toList with | some t => ⟨t.toArray⟩ | none => ⟨#[]⟩
def unqE (s : ByteArray) : Int := match unqO s.data.toList with | some _ => 0 | none => 21
theorem unqS_some {s : ByteArray} {t : List UInt8} (h : unqO s.data.toList = some t) : unqS s = ⟨t.toArray⟩ := by unfold unqS; rw [h]
theorem unqE_some {s : ByteArray} {t : List UInt8} (h : unqO s.data.toList = some t) : unqE s = 0 := by unfold unqE; rw [h]
theorem unqS_none {s : ByteArray} (h : unqO s.data.toList = none) : unqS s = ⟨#[]⟩ := by unfold unqS; rw [h]
theorem unqE_none {s : ByteArray} (h : unqO s.data.toList = none) : unqE s = 21 := by unfold unqE; rw [h]
end Go.Proofs.YtbbihfafkpniiaaGreatDoor

/- Texts of one proof, laid together. -/
import Derived.Test.YtollifnnpihfdaaGreatDoorC05
import Derived.Test.YtollifnnpihfdaaGreatDoorC06
import Derived.Lib.AppendIntMem
import Derived.Test.YtollifnnpihfdaaGreatDoorC02
import Derived.Test.YtollifnnpihfdaaGreatDoorC01
import Derived.RegionTactic
import Derived.IntWalk
import Derived.Deep.RegionHeld3
import Derived.Deep.AppendLies
import Derived.Deep.QuietTactic
import Derived.BigQuiet
import Derived.Laws.Rows
/- Numbers as texts: Itoa of Go's library. -/
namespace Go.Proofs.YtollifnnpihfdaaGreatDoor
open Go.RowKit
/-- The decimal numeral of n as a string. -/
def numS (n : Int) : ByteArray := ⟨(Lib.itoa n).toArray⟩
/-- The table of powers of ten of Go's library. -/
def Pow (w : World) : Prop := Lib.TabIs Tryz.prog w "internal/strconv.uint64pow10" .u64 Lib.pow10Tab
theorem pow_g : Tryz.prog.globalNamed "internal/strconv.uint64pow10" = some 7 := by kernel_rfl
theorem var_below {P : Program} {w w' : World} {name : String} {g : Nat} {cs : Array Value} {B : Nat} (hg : P.globalNamed name = some g) (h : w.var? P name = some cs) (hb : Below B w w') (hB : w.heap.size ≤ B) : w'.var? P name = some cs := by
  have hlt : g < w.heap.size := by
    unfold World.var? at h
    rw [hg] at h
    simp only [Option.bind_some] at h
    split at h
    · rename_i he
      exact (Array.getElem?_eq_some_iff.1 he).1
    · cases h
  unfold World.var? at h ⊢
  rw [hg] at h ⊢
  simp only [Option.bind_some] at h ⊢
  rw [hb.block g (by omega)]
  exact h
theorem Pow.below {B : Nat} {w w' : World} (h : Pow w) (hb : Below B w w') (hB : w.heap.size ≤ B) : Pow w' := var_below pow_g h hb hB
theorem vitoa (n : Int) (h0 : -9223372036854775808 ≤ n) (h1 : n ≤ 9223372036854775807) (w : World) (hp : Pow w) :
    Calls Tryz.prog 93 #[.int .i64 n] w fun e w' => e = .returned (.string (numS n)) ∧ Below w.heap.size w w' :=
  (Tryz.strconv_Itoa n h0 h1 w hp).mono fun _ _ hh => ⟨hh.1, by obtain ⟨k, os, rfl⟩ := hh.2; exact Lib.below_grow _ _ (Nat.le_refl _) _ _⟩
end Go.Proofs.YtollifnnpihfdaaGreatDoor
/- Number of the reference. -/
namespace Go.Proofs.YtollifnnpihfdaaGreatDoor
open Go.RowKit
theorem numS_pos (n : Nat) : numS (n : Int) = decS n := by
  unfold numS decS Lib.itoa; rw [if_neg (by omega)]; rfl
theorem numS_neg (n : Nat) (h : 0 < n) : numS (-(n : Int)) = ⟨#[45]⟩ ++ decS n := by
  unfold numS decS Lib.itoa; rw [if_pos (by omega), show (-(n : Int)).natAbs = n by omega]
  apply ByteArray.ext; simp
theorem numS_least : numS (-9223372036854775808) = ⟨#[45]⟩ ++ decS 922337203685477580 ++ decS 8 := by
  have e : (-9223372036854775808 : Int) = -((9223372036854775808 : Nat) : Int) := by omega
  rw [e, numS_neg _ (by omega)]
  have : decS 9223372036854775808 = decS 922337203685477580 ++ decS 8 := by
    unfold decS
    rw [Lib.decDigits, dif_neg (by omega)]
    rw [show 9223372036854775808 / 10 = 922337203685477580 from rfl, show 9223372036854775808 % 10 = 8 from rfl, Lib.decDigits_one (show 8 < 10 by omega)]
    apply ByteArray.ext; simp
  rw [this, ByteArray.append_assoc]
set_option maxHeartbeats 400000 in
theorem rnumber_pos (n : Nat) (w : World) (hn : (n : Int) ≤ 9223372036854775807) :
    Calls Tryz.prog 176 #[.int .i64 (n : Int)] w fun e w' => e = .returned (.string (numS n)) ∧ w = w' := by
  have H := Lib.hid (numS_pos n)
  go_enter Tryz.func176, Tryz.ntmps176
  go_wp2_with (go_at_call 114; refine (decimal n _ hn).mono ?_; rintro e w' ⟨rfl, rfl⟩)
  go_ret
  exact ⟨retS H.out.symm, rfl⟩
set_option maxHeartbeats 400000 in
theorem rnumber_neg (n : Nat) (w : World) (h0 : 0 < (n : Int)) (hn : (n : Int) ≤ 9223372036854775807) :
    Calls Tryz.prog 176 #[.int .i64 (-(n : Int))] w fun e w' => e = .returned (.string (numS (-(n : Int)))) ∧ w = w' := by
  have H := Lib.hid (numS_neg n (by omega))
  have hz := decS_size n (by omega)
  go_enter Tryz.func176, Tryz.ntmps176
  go_wp2_with fail
  refine (decimal n _ hn).mono ?_
  rintro e w' ⟨rfl, rfl⟩
  go_wp2_with fail
  go_ret
  exact ⟨retS H.out.symm, rfl⟩
attribute [local irreducible] decS
set_option maxRecDepth 100000 in
set_option maxHeartbeats 400000 in
theorem rnumber_least (w : World) :
    Calls Tryz.prog 176 #[.int .i64 (-9223372036854775808)] w fun e w' => e = .returned (.string (numS (-9223372036854775808))) ∧ w = w' := by
  have H := Lib.hid numS_least
  have hz1 := decS_size 922337203685477580 (by omega)
  have hz2 := decS_size 8 (by omega)
  have hd1 := Lib.hid (fun w => decimal 922337203685477580 w (by omega))
  have hd2 := Lib.hid (fun w => decimal 8 w (by omega))
  have hneg : wrap64 9223372036854775808 < 0 := by decide +kernel
  go_enter Tryz.func176, Tryz.ntmps176
  go_wp2_with fail
  refine (hd1.out _).mono ?_
  rintro e w' ⟨rfl, rfl⟩
  go_wp2_with fail
  refine (hd2.out _).mono ?_
  rintro e w' ⟨rfl, rfl⟩
  go_wp2_with fail
  go_ret
  exact ⟨retS H.out.symm, rfl⟩
theorem rnumber (n : Int) (h0 : -9223372036854775808 ≤ n) (h1 : n ≤ 9223372036854775807) (w : World) :
    Calls Tryz.prog 176 #[.int .i64 n] w fun e w' => e = .returned (.string (numS n)) ∧ w = w' := by
  by_cases hn : 0 ≤ n
  · obtain ⟨k, rfl⟩ := Int.eq_ofNat_of_zero_le hn
    exact rnumber_pos k w (by omega)
  · by_cases hm : n = -9223372036854775808
    · subst hm
      exact rnumber_least w
    · obtain ⟨k, rfl⟩ : ∃ k : Nat, n = -(k : Int) := ⟨n.natAbs, by omega⟩
      exact rnumber_neg k w (by omega) (by omega)
end Go.Proofs.YtollifnnpihfdaaGreatDoor
/- Decimal digits: plain facts. -/
namespace Go.Proofs.YtollifnnpihfdaaGreatDoor
/-- The number that decimal digits say. -/
def valD (l : List UInt8) : Nat := l.foldl (fun v c => 10 * v + (c.toNat - 48)) 0
theorem valD_snoc (l : List UInt8) (c : UInt8) : valD (l ++ [c]) = 10 * valD l + (c.toNat - 48) := by simp [valD, List.foldl_append]
def digB (c : UInt8) : Bool := decide (48 ≤ c.toNat) && decide (c.toNat ≤ 57)
theorem dig_nat (d : Nat) (h : d < 10) : (UInt8.ofNat (48 + d)).toNat = 48 + d := by rw [UInt8.toNat_ofNat']; omega
theorem dec_props (u : Nat) : valD (Lib.decDigits u) = u ∧ (Lib.decDigits u).all digB = true ∧ Lib.decDigits u ≠ [] := by
  induction u using Nat.strongRecOn with
  | _ u ih =>
    by_cases h : u < 10
    · rw [Lib.decDigits_one h]
      refine ⟨?_, ?_, by simp⟩
      · simp [valD]; omega
      · simp [digB]; omega
    · have := ih (u / 10) (by omega)
      rw [Lib.decDigits, dif_neg h]
      refine ⟨?_, ?_, by simp⟩
      · rw [valD_snoc, this.1, dig_nat _ (by omega)]; omega
      · rw [List.all_append, this.2.1]
        simp [digB]; omega
theorem dec_inj {u v : Nat} (h : Lib.decDigits u = Lib.decDigits v) : u = v := by rw [← (dec_props u).1, h, (dec_props v).1]
theorem dec_head (u : Nat) : ∃ c r, Lib.decDigits u = c :: r ∧ 48 ≤ c.toNat ∧ c.toNat ≤ 57 := by
  obtain ⟨_, h2, h3⟩ := dec_props u
  cases hl : Lib.decDigits u with
  | nil => exact absurd hl h3
  | cons c r =>
    rw [hl] at h2
    simp [digB] at h2
    exact ⟨c, r, rfl, h2.1.1, h2.1.2⟩
theorem itoa_inj {m n : Int} (h : Lib.itoa m = Lib.itoa n) : m = n := by
  unfold Lib.itoa at h
  split at h <;> split at h
  · injection h with _ h
    have := dec_inj h; omega
  · obtain ⟨c, r, e, h1, h2⟩ := dec_head n.toNat
    rw [e] at h; injection h with h _; rw [← h] at h1; simp at h1
  · obtain ⟨c, r, e, h1, h2⟩ := dec_head m.toNat
    rw [e] at h; injection h with h _; rw [h] at h1; simp at h1
  · have := dec_inj h; omega
theorem itoa_head (n : Int) : ∃ c r, Lib.itoa n = c :: r ∧ (c.toNat = 45 ∨ (48 ≤ c.toNat ∧ c.toNat ≤ 57)) := by
  unfold Lib.itoa; split
  · exact ⟨45, _, rfl, .inl rfl⟩
  · obtain ⟨c, r, e, h1, h2⟩ := dec_head n.toNat
    exact ⟨c, r, e, .inr ⟨h1, h2⟩⟩
theorem bytes_ext {a b : ByteArray} (h : a.data.toList = b.data.toList) : a = b := ByteArray.ext (Array.toList_inj.1 h)
end Go.Proofs.YtollifnnpihfdaaGreatDoor
/- Quote, of the program and of the reference, returns quoteS and quoteE. -/
namespace Go.Proofs.YtollifnnpihfdaaGreatDoor
open Go.RowKit
theorem Tryz.info5 : (Tryz.prog.info? 5).map (fun i => (i.zero, i.size, i.bytes)) = some (some (.int .u8 0), 1, 1) := by kernel_rfl
/-- The variable digits of package value holds the sixteen digits. -/
def tabV : Array Value := #[.int .u8 48, .int .u8 49, .int .u8 50, .int .u8 51, .int .u8 52, .int .u8 53, .int .u8 54, .int .u8 55, .int .u8 56, .int .u8 57, .int .u8 97, .int .u8 98, .int .u8 99, .int .u8 100, .int .u8 101, .int .u8 102]
def Tab (w : World) : Prop := Glob w 6 tabV
theorem Tab.cell {w : World} (h : Tab w) (i : Nat) (hi : i < 16) : w.cell? ⟨6, i, none⟩ = some (bv (hexd i)) := by
  rw [Glob.cell h i]
  have : i = 0 ∨ i = 1 ∨ i = 2 ∨ i = 3 ∨ i = 4 ∨ i = 5 ∨ i = 6 ∨ i = 7 ∨ i = 8 ∨ i = 9 ∨ i = 10 ∨ i = 11 ∨ i = 12 ∨ i = 13 ∨ i = 14 ∨ i = 15 := by omega
  rcases this with h | h | h | h | h | h | h | h | h | h | h | h | h | h | h | h <;> (subst h; rfl)
theorem Tab.below {B : Nat} {w w' : World} (h : Tab w) (hb : Below B w w') (hB : w.heap.size ≤ B) : Tab w' := Glob.below h hb hB
theorem hexrow (s : ByteArray) (k : Nat) (hlt : k < s.size) (xs : List Value) (h : xs = (120 :: hexL (s.data.toList.take k)).map bv) :
    xs ++ [bv (hexd (s[k].toNat / 16)), bv (hexd (s[k].toNat % 16))] = (120 :: hexL (s.data.toList.take (k + 1))).map bv := by
  rw [take_snoc s k hlt, hexL_snoc, h]; simp [hex2]
theorem quoteS_hex (s : ByteArray) (hs : ¬ 640 < s.size) (hu : safeB s.data.toList = false) : quoteS s = ⟨(120 :: hexL s.data.toList).toArray⟩ := by
  unfold quoteS quoteL; rw [if_neg hs, hu]; rfl
theorem quoteS_safe (s : ByteArray) (hs : ¬ 640 < s.size) (hu : safeB s.data.toList = true) : quoteS s = ⟨(34 :: (s.data.toList ++ [34])).toArray⟩ := by
  unfold quoteS quoteL; rw [if_neg hs, hu]; rfl
theorem quoteE_ok (s : ByteArray) (hs : ¬ 640 < s.size) : quoteE s = 0 := if_neg hs
theorem tup {a b : ByteArray} {m n : Int} (h : a = b) (k : m = n) : Ending.returned (.tuple #[.string a, .int .i64 m]) = .returned (.tuple #[.string b, .int .i64 n]) := by rw [h, k]

set_option maxRecDepth 100000 in
set_option maxHeartbeats 1000000 in
theorem vquote_hex (s : ByteArray) (w : World) (hs : s.size ≤ 640) (hu : safeB s.data.toList = false) (ht : Tab w) :
    Calls Tryz.prog 184 #[.string s] w fun e w' => e = .returned (.tuple #[.string (quoteS s), .int .i64 (quoteE s)]) ∧ Below w.heap.size w w' := by
  obtain ⟨i0, hi, hz0, hz1, hz2⟩ := info_parts Tryz.info5
  have h8 : decide (640 < (s.size : Int)) = false := by simp; omega
  have HU := Lib.hid hu
  have HQ := Lib.hid (quoteS_hex s (by omega) hu)
  have HE := Lib.hid (quoteE_ok s (by omega))
  clear hu
  go_enter Tryz.func184, Tryz.ntmps184
  go_wp2_with (first
    | (go_at_call 244; refine (vsafe _ _ (by unfold maxLen; omega)).mono ?_; rintro e w' ⟨rfl, rfl⟩; rw [HU.out])
    | (at_make; refine wpList_make_own _ rfl _ _ 265 rfl w.heap.size 5 i0 _ 1 Tryz.underlying265 hi hz0 hz1 _ _ _ (1 + 2 * s.size) rfl rfl (by omega) (by rw [hz2]; omega) (by unfold maxLen; omega) (Nat.le_refl _) ?_; intro w1 hown1 hg1)
    | (at_builtin; refine wpList_append_own _ rfl _ _ 265 rfl w.heap.size 5 i0 _ 1 1 Tryz.underlying265 hi hz0 hz1 hz2 rfl (by omega) _ _ _ rfl (hown1.alloc _) ⟨w1.heap.size, 0, none⟩ 1 1 [.int .u8 120] rfl rfl (cell_one_new _ _ _) (by simp [Value.oneCell']) (by unfold maxLen; omega) (by omega) (by have := hg1.size; simp; omega) ?_; intro v2 w2 hown2 hg2 _))
  have hb1 : Below w.heap.size w w1 := (Below.refl _ _).grown hg1 (Nat.le_refl _) (by simp)
  have hb2 : Below w.heap.size w w2 := below_grown_own (hb1.alloc hb1.size _) hown1 (Nat.le_refl _) hg2 (by have := hb1.size; simp; omega)
  clear hg1 hg2 hown1 hb1
  go_loopw [4, 24] (fun v i wr => ∃ k : Nat, k ≤ s.size ∧ i = .int .i64 k ∧ wr.ownsRow w.heap.size 5 1 v (1 + 2 * k) ((120 :: hexL (s.data.toList.take k)).map bv) ∧ Below w.heap.size w wr) (fun _ i _ => s.size - (intOf i).toNat)
  case atStart => exact ⟨0, Nat.zero_le _, rfl, by simpa [hexL, bv] using hown2, hb2⟩
  case round =>
    obtain ⟨k, hk, rfl, hown, hb⟩ := hrel
    clear hown2 hb2
    by_cases hlt : k < s.size
    · have q1 : (0:Int) ≤ (s[k].toNat : Int) := by omega
      have q2 : (s[k].toNat : Int) < 256 := by have := s[k].toNat_lt; omega
      have q3 : (0:Int) ≤ (k : Int) := by omega
      have q4 : (k:Int) < (s.size : Int) := by omega
      have q5 : (0:Int) ≤ (s[k].toNat : Int) / 16 := by omega
      have q6 : (s[k].toNat : Int) / 16 < 16 := by omega
      have q7 : (0:Int) ≤ (s[k].toNat : Int) % 16 := by omega
      have q8 : (s[k].toNat : Int) % 16 < 16 := by omega
      have ht' := ht.below hb (Nat.le_refl _)
      have p1 : wr.cell? ⟨6, ((s[k].toNat : Int) / 16).toNat, none⟩ = some (bv (hexd (s[k].toNat / 16))) := by
        rw [show ((s[k].toNat : Int) / 16).toNat = s[k].toNat / 16 by omega]; exact ht'.cell _ (by omega)
      have p2 : wr.cell? ⟨6, ((s[k].toNat : Int) % 16).toNat, none⟩ = some (bv (hexd (s[k].toNat % 16))) := by
        rw [show ((s[k].toNat : Int) % 16).toNat = s[k].toNat % 16 by omega]; exact ht'.cell _ (by omega)
      have lt0 : 6 < wr.heap.size := Glob.lt ht'
      have ne0 : ∀ j, u4.ownBlock = some j → w.heap.size ≤ j := fun j hj => (hown.lt j hj).1
      have NE := Lib.hid (show some 6 ≠ u4.ownBlock from fun e => by have := ne0 _ e.symm; have := Glob.lt ht; omega)
      have q9 : bits .and .u8 (s[k].toNat : Int) 15 = (s[k].toNat : Int) % 16 := u8_and15 _ q1 q2
      clear ht' ne0
      go_wp2_with fail
      go_region_held3 (fun w' => w'.cell? ⟨6, ((s[k].toNat : Int) / 16).toNat, none⟩ = some (bv (hexd (s[k].toNat / 16))) ∧ w'.cell? ⟨6, ((s[k].toNat : Int) % 16).toNat, none⟩ = some (bv (hexd (s[k].toNat % 16)))) (first | go_keep | (go_split_ands; refine ⟨?_, ?_⟩ <;> (rw [hgrow.cell_far _ (by simp <;> omega) NE.out]; assumption)))
        ((refine step_append_lies _ (by rfl) _ _ _ (by rfl) w.heap.size 5 i0 _ 1 1 Tryz.underlying265 hi hz0 hz1 hz2 rfl (by omega) u4 (1 + 2 * k) _ (by rfl) ((hown.alloc _).drew) ⟨wr.heap.size, 0, none⟩ 2 2 [bv (hexd (s[k].toNat / 16)), bv (hexd (s[k].toNat % 16))] (by rfl) (by rfl) (World.news_of_block (cs := #[bv (hexd (s[k].toNat / 16)), bv (hexd (s[k].toNat % 16))]) (t := 5) (fr := (0, 0)) (heap_alloc_new wr _)) (by simp [Value.oneCell']) (by omega) (by unfold maxLen; omega) (by omega) (by have := hb.size; simp; omega) (wr.heap.size + 1) (by simp) ?_; intro gg cap w3 hown3 hgrow hat hlt3))
      all_goals
        have hb3 : Below w.heap.size w w3 := below_grown_own ((hb.alloc hb.size _).drew) hown (Nat.le_refl _) hgrow (by have := hb.size; simp; omega)
        rw [hexrow s k hlt _ rfl] at hown3
        clear hgrow hat q9 p1 p2
        go_wp2
        go_roundw
        case rel => exact ⟨k + 1, by omega, by go_num, by rw [show 1 + 2 * (k + 1) = 1 + 2 * k + 2 by omega]; exact hown3, hb3⟩
        case measure => simp [intOf]; omega
    · obtain rfl : k = s.size := by omega
      rw [take_all s s.size (Nat.le_refl _)] at hown
      have hcv := conv_own (P := Tryz.prog) (src := 265) (dst := 9) hown Tryz.underlying265 Tryz.underlying5 Tryz.underlying9
      rw [← HQ.out] at hcv
      go_wp2
      go_ret2
      exact ⟨tup rfl HE.out.symm, hb⟩
theorem vquote_short (s : ByteArray) (w : World) (hs : s.size ≤ 640) (hu : safeB s.data.toList = true) :
    Calls Tryz.prog 184 #[.string s] w fun e w' => e = .returned (.tuple #[.string (quoteS s), .int .i64 (quoteE s)]) ∧ Below w.heap.size w w' := by
  have HU := Lib.hid hu
  have HQ := Lib.hid (quoteS_safe s (by omega) hu)
  have HE := Lib.hid (quoteE_ok s (by omega))
  clear hu
  go_enter Tryz.func184, Tryz.ntmps184
  go_wp2_with (go_at_call 244; refine (vsafe _ _ (by unfold maxLen; omega)).mono ?_; rintro e w' ⟨rfl, rfl⟩; rw [HU.out])
  go_ret2
  refine ⟨tup ?_ HE.out.symm, Below.refl _ _⟩
  rw [HQ.out]
  rfl
theorem vquote_long (s : ByteArray) (w : World) (hs : ¬ s.size ≤ 640) (hm : s.size ≤ maxLen) :
    Calls Tryz.prog 184 #[.string s] w fun e w' => e = .returned (.tuple #[.string (quoteS s), .int .i64 (quoteE s)]) ∧ Below w.heap.size w w' := by
  unfold maxLen at hm
  have HQ := Lib.hid (show quoteS s = ⟨#[]⟩ from if_pos (by omega))
  have HE := Lib.hid (show quoteE s = 20 from if_pos (by omega))
  go_enter Tryz.func184, Tryz.ntmps184
  go_wp2
  go_ret2
  exact ⟨tup HQ.out.symm HE.out.symm, Below.refl _ _⟩
theorem vquote (s : ByteArray) (w : World) (hm : s.size ≤ maxLen) (ht : Tab w) :
    Calls Tryz.prog 184 #[.string s] w fun e w' => e = .returned (.tuple #[.string (quoteS s), .int .i64 (quoteE s)]) ∧ Below w.heap.size w w' := by
  by_cases hs : s.size ≤ 640
  · cases hu : safeB s.data.toList
    · exact vquote_hex s w hs hu ht
    · exact vquote_short s w hs hu
  · exact vquote_long s w hs hm
def hexS (s : ByteArray) (k : Nat) : ByteArray := ⟨(120 :: hexL (s.data.toList.take k)).toArray⟩
theorem hexS_size (s : ByteArray) (k : Nat) : (hexS s k).size = 1 + 2 * min k s.size := by
  unfold hexS ByteArray.size; simp [hexL_length]; omega
theorem hexS_succ (s : ByteArray) (k : Nat) (h : k < s.size) : hexS s (k + 1) = hexS s k ++ (⟨#[hexd (s[k].toNat / 16)]⟩ ++ ⟨#[hexd (s[k].toNat % 16)]⟩) := by
  unfold hexS; rw [take_snoc s k h, hexL_snoc]
  apply ByteArray.ext; simp [hex2]
theorem digit_slice (x : Int) (h0 : 0 ≤ x) (h1 : x < 16) (w : World) : (Instr.slice 9 (.string ⟨#[48, 49, 50, 51, 52, 53, 54, 55, 56, 57, 97, 98, 99, 100, 101, 102]⟩) (some (.int .u8 x)) (some (.int .u8 (x + 1))) none).run Tryz.prog w = .ok (.string ⟨#[hexd x.toNat]⟩) w := by
  have : x = 0 ∨ x = 1 ∨ x = 2 ∨ x = 3 ∨ x = 4 ∨ x = 5 ∨ x = 6 ∨ x = 7 ∨ x = 8 ∨ x = 9 ∨ x = 10 ∨ x = 11 ∨ x = 12 ∨ x = 13 ∨ x = 14 ∨ x = 15 := by omega
  rcases this with h | h | h | h | h | h | h | h | h | h | h | h | h | h | h | h <;> (subst h; clear h0 h1; show _ = _; kernel_rfl)
set_option maxRecDepth 100000 in
set_option maxHeartbeats 1000000 in
theorem rquote_hex (s : ByteArray) (w : World) (hs : s.size ≤ 640) (hu : safeB s.data.toList = false) :
    Calls Tryz.prog 177 #[.string s] w fun e w' => e = .returned (.tuple #[.string (quoteS s), .int .i64 (quoteE s)]) ∧ Below w.heap.size w w' := by
  have h8 : decide (640 < (s.size : Int)) = false := by simp; omega
  have HU := Lib.hid hu
  have HQ := Lib.hid (quoteS_hex s (by omega) hu)
  have HE := Lib.hid (quoteE_ok s (by omega))
  clear hu
  go_enter Tryz.func177, Tryz.ntmps177
  go_wp2_with (go_at_call 240; refine (rsafe _ _ (by unfold maxLen; omega)).mono ?_; rintro e w' ⟨rfl, rfl⟩; rw [HU.out])
  go_loopw [4, 5] (fun v i wr => ∃ k : Nat, k ≤ s.size ∧ i = .int .i64 k ∧ v = .string (hexS s k) ∧ Below w.heap.size w wr) (fun _ i _ => s.size - (intOf i).toNat)
  case atStart => exact ⟨0, Nat.zero_le _, rfl, rfl, Below.refl _ _⟩
  case round =>
    obtain ⟨k, hk, rfl, rfl, hb⟩ := hrel
    by_cases hlt : k < s.size
    · have q1 : (0:Int) ≤ (s[k].toNat : Int) := by omega
      have q2 : (s[k].toNat : Int) < 256 := by have := s[k].toNat_lt; omega
      have q3 : (0:Int) ≤ (k : Int) := by omega
      have q4 : (k:Int) < (s.size : Int) := by omega
      have q5 : (0:Int) ≤ (s[k].toNat : Int) / 16 := by omega
      have q6 : (s[k].toNat : Int) / 16 < 16 := by omega
      have q7 : (0:Int) ≤ (s[k].toNat : Int) % 16 := by omega
      have q8 : (s[k].toNat : Int) % 16 < 16 := by omega
      have q9 : bits .and .u8 (s[k].toNat : Int) 15 = (s[k].toNat : Int) % 16 := u8_and15 _ q1 q2
      have w1 : IntKind.u8.wrap ((s[k].toNat : Int) / 16 + 1) = (s[k].toNat : Int) / 16 + 1 := by rw [IntKind.wrap_u8]; omega
      have w2 : IntKind.u8.wrap ((s[k].toNat : Int) % 16 + 1) = (s[k].toNat : Int) % 16 + 1 := by rw [IntKind.wrap_u8]; omega
      have hz : (hexS s k).size ≤ 1300 := by rw [hexS_size]; omega
      have d1 := digit_slice _ q5 q6
      have d2 := digit_slice _ q7 q8
      go_wp2_with fail
      go_quiet (fail)
      clear w1 w2 d1 d2 q9 hz
      go_wp2
      go_roundw
      case rel => exact ⟨k + 1, by omega, by go_num, by rw [hexS_succ s k hlt], below_drewN hb _⟩
      case measure => simp [intOf]; omega
    · obtain rfl : k = s.size := by omega
      go_wp2
      go_ret2
      exact ⟨tup (by rw [HQ.out, hexS, take_all s s.size (Nat.le_refl _)]) HE.out.symm, hb⟩
theorem rquote_short (s : ByteArray) (w : World) (hs : s.size ≤ 640) (hu : safeB s.data.toList = true) :
    Calls Tryz.prog 177 #[.string s] w fun e w' => e = .returned (.tuple #[.string (quoteS s), .int .i64 (quoteE s)]) ∧ Below w.heap.size w w' := by
  have HU := Lib.hid hu
  have HQ := Lib.hid (quoteS_safe s (by omega) hu)
  have HE := Lib.hid (quoteE_ok s (by omega))
  clear hu
  go_enter Tryz.func177, Tryz.ntmps177
  go_wp2_with (go_at_call 240; refine (rsafe _ _ (by unfold maxLen; omega)).mono ?_; rintro e w' ⟨rfl, rfl⟩; rw [HU.out])
  go_ret2
  refine ⟨tup ?_ HE.out.symm, Below.refl _ _⟩
  rw [HQ.out]
  rfl
theorem rquote_long (s : ByteArray) (w : World) (hs : ¬ s.size ≤ 640) (hm : s.size ≤ maxLen) :
    Calls Tryz.prog 177 #[.string s] w fun e w' => e = .returned (.tuple #[.string (quoteS s), .int .i64 (quoteE s)]) ∧ Below w.heap.size w w' := by
  unfold maxLen at hm
  have HQ := Lib.hid (show quoteS s = ⟨#[]⟩ from if_pos (by omega))
  have HE := Lib.hid (show quoteE s = 20 from if_pos (by omega))
  go_enter Tryz.func177, Tryz.ntmps177
  go_wp2
  go_ret2
  exact ⟨tup HQ.out.symm HE.out.symm, Below.refl _ _⟩
theorem rquote (s : ByteArray) (w : World) (hm : s.size ≤ maxLen) :
    Calls Tryz.prog 177 #[.string s] w fun e w' => e = .returned (.tuple #[.string (quoteS s), .int .i64 (quoteE s)]) ∧ Below w.heap.size w w' := by
  by_cases hs : s.size ≤ 640
  · cases hu : safeB s.data.toList
    · exact rquote_hex s w hs hu
    · exact rquote_short s w hs hu
  · exact rquote_long s w hs hm
end Go.Proofs.YtollifnnpihfdaaGreatDoor
/- digit of package value, and value of the reference: the value of a hexadecimal digit. -/
namespace Go.Proofs.YtollifnnpihfdaaGreatDoor
open Go.RowKit
/-- The value of a hexadecimal digit, or -1. -/
def unhexd (c : UInt8) : Int := if 48 ≤ c.toNat ∧ c.toNat ≤ 57 then c.toNat - 48 else if 97 ≤ c.toNat ∧ c.toNat ≤ 102 then c.toNat - 87 else -1
theorem unhexd_hexd : ∀ k : Fin 16, unhexd (hexd k.val) = (k.val : Int) := by decide +kernel
theorem hexd_unhexd : ∀ c : Fin 256, unhexd (UInt8.ofNat c.val) ≠ -1 → 0 ≤ unhexd (UInt8.ofNat c.val) ∧ unhexd (UInt8.ofNat c.val) < 16 ∧ hexd (unhexd (UInt8.ofNat c.val)).toNat = UInt8.ofNat c.val := by decide +kernel
theorem unhexd_at (c : UInt8) (k : Nat) (hk : k < 16) (h : ((hexd k).toNat : Int) = (c.toNat : Int)) : unhexd c = k := by
  have : hexd k = c := UInt8.toNat.inj (by omega)
  rw [← this]; exact unhexd_hexd ⟨k, hk⟩
theorem unhexd_prop (c : UInt8) (h : unhexd c ≠ -1) : 0 ≤ unhexd c ∧ unhexd c < 16 ∧ hexd (unhexd c).toNat = c := by
  have := hexd_unhexd ⟨c.toNat, c.toNat_lt⟩
  simp only [UInt8.ofNat_toNat] at this
  exact this h
theorem unhexd_none (c : UInt8) (h : ∀ k : Nat, k < 16 → ¬ ((hexd k).toNat : Int) = (c.toNat : Int)) : unhexd c = -1 := by
  by_cases hc : unhexd c = -1
  · exact hc
  · obtain ⟨h1, h2, h3⟩ := unhexd_prop c hc
    exact absurd (by rw [h3]) (h (unhexd c).toNat (by omega))
theorem unhexd_bounds (c : UInt8) : -1 ≤ unhexd c ∧ unhexd c < 16 := by
  by_cases hc : unhexd c = -1
  · omega
  · have := unhexd_prop c hc; omega
theorem tab_index (k : Nat) (hk : k < 16) (w : World) : (Instr.index 316 (.agg tabV) (.int .i64 k)).run Tryz.prog w = .ok (bv (hexd k)) w := by
  have : k = 0 ∨ k = 1 ∨ k = 2 ∨ k = 3 ∨ k = 4 ∨ k = 5 ∨ k = 6 ∨ k = 7 ∨ k = 8 ∨ k = 9 ∨ k = 10 ∨ k = 11 ∨ k = 12 ∨ k = 13 ∨ k = 14 ∨ k = 15 := by omega
  rcases this with h | h | h | h | h | h | h | h | h | h | h | h | h | h | h | h <;> (subst h; clear hk; show _ = _; kernel_rfl)
theorem dig_index (k : Nat) (hk : k < 16) (w : World) : (Instr.index 9 (.string ⟨#[48, 49, 50, 51, 52, 53, 54, 55, 56, 57, 97, 98, 99, 100, 101, 102]⟩) (.int .i64 k)).run Tryz.prog w = .ok (bv (hexd k)) w := by
  have : k = 0 ∨ k = 1 ∨ k = 2 ∨ k = 3 ∨ k = 4 ∨ k = 5 ∨ k = 6 ∨ k = 7 ∨ k = 8 ∨ k = 9 ∨ k = 10 ∨ k = 11 ∨ k = 12 ∨ k = 13 ∨ k = 14 ∨ k = 15 := by omega
  rcases this with h | h | h | h | h | h | h | h | h | h | h | h | h | h | h | h <;> (subst h; clear hk; show _ = _; kernel_rfl)
end Go.Proofs.YtollifnnpihfdaaGreatDoor
/- What Unquote reads: the text t with quoteL t = l, if there is one of at most 640 bytes. -/
namespace Go.Proofs.YtollifnnpihfdaaGreatDoor
def pairc (a b : UInt8) : UInt8 := UInt8.ofNat (16 * (unhexd a).toNat + (unhexd b).toNat)
def unhexL : List UInt8 → Option (List UInt8)
  | [] => some []
  | [_] => none
  | a :: b :: r => if unhexd a < 0 ∨ unhexd b < 0 then none else (unhexL r).map (pairc a b :: ·)
theorem pairc_val (a b : UInt8) (ha : 0 ≤ unhexd a) (hb : 0 ≤ unhexd b) : ((pairc a b).toNat : Int) = 16 * unhexd a + unhexd b := by
  have h1 := unhexd_bounds a
  have h2 := unhexd_bounds b
  unfold pairc
  rw [UInt8.toNat_ofNat']
  omega
theorem hex2_pairc (a b : UInt8) (ha : 0 ≤ unhexd a) (hb : 0 ≤ unhexd b) : hex2 (pairc a b) = [a, b] := by
  have h := pairc_val a b ha hb
  have h1 := unhexd_prop a (by omega)
  have h2 := unhexd_prop b (by omega)
  unfold hex2
  rw [show (pairc a b).toNat / 16 = (unhexd a).toNat by omega, show (pairc a b).toNat % 16 = (unhexd b).toNat by omega, h1.2.2, h2.2.2]
theorem unhexd_hexd' (n : Nat) (h : n < 16) : unhexd (hexd n) = n := unhexd_hexd ⟨n, h⟩
theorem pairc_hex2 (c : UInt8) : pairc (hexd (c.toNat / 16)) (hexd (c.toNat % 16)) = c := by
  have hc := c.toNat_lt
  unfold pairc
  rw [unhexd_hexd' _ (by omega), unhexd_hexd' _ (by omega)]
  apply UInt8.toNat.inj
  rw [UInt8.toNat_ofNat']; omega
theorem unhexL_hexL : ∀ t : List UInt8, unhexL (hexL t) = some t
  | [] => rfl
  | c :: t => by
    have e : hexL (c :: t) = hexd (c.toNat / 16) :: hexd (c.toNat % 16) :: hexL t := rfl
    have hc := c.toNat_lt
    rw [e, unhexL, if_neg (by rw [unhexd_hexd' _ (by omega), unhexd_hexd' _ (by omega)]; omega), unhexL_hexL t, pairc_hex2]; rfl
theorem hexL_unhexL : ∀ (l t : List UInt8), unhexL l = some t → hexL t = l
  | [], t, h => by injection h with h; subst h; rfl
  | [_], t, h => by cases h
  | a :: b :: r, t, h => by
    rw [unhexL] at h
    split at h
    · cases h
    · rename_i hn
      cases hr : unhexL r with
      | none => rw [hr] at h; cases h
      | some u =>
        rw [hr] at h
        injection h with h
        subst h
        have e : hexL (pairc a b :: u) = hex2 (pairc a b) ++ hexL u := rfl
        rw [e, hex2_pairc a b (by omega) (by omega), hexL_unhexL r u hr]; rfl
/-- The text whose quoted form is l. -/
def Quotes (l t : List UInt8) : Prop := quoteL t = l ∧ t.length ≤ 640
theorem safe_nil : safeB [] = true := rfl
theorem Quotes.unique {l t u : List UInt8} (h : Quotes l t) (k : Quotes l u) : t = u := by
  have h1 := h.1; have k1 := k.1
  unfold quoteL at h1 k1
  cases ht : safeB t <;> cases hu : safeB u <;> simp only [ht, hu] at h1 k1
  · rw [← k1] at h1
    simp only [Bool.false_eq_true, if_false, List.cons.injEq, true_and] at h1
    have := unhexL_hexL t
    rw [h1, unhexL_hexL u] at this
    injection this with this; exact this.symm
  · rw [← k1] at h1; simp at h1
  · rw [← k1] at h1; simp at h1
  · rw [← k1] at h1
    simpa using h1
/-- What Unquote returns: the text, if there is one. -/
def unqO (l : List UInt8) : Option (List UInt8) :=
  if 2 ≤ l.length ∧ l.head? = some 34 ∧ l.getLast? = some 34 then
    let t := l.tail.dropLast
    if safeB t ∧ t.length ≤ 640 then some t else none
  else match l with
    | [] => none
    | c :: r => if c = 120 then match unhexL r with
        | some t => if safeB t = false ∧ t.length ≤ 640 then some t else none
        | none => none
      else none
theorem unqO_of {l t : List UInt8} (h : Quotes l t) : unqO l = some t := by
  obtain ⟨h1, h2⟩ := h
  unfold quoteL at h1
  cases ht : safeB t <;> simp only [ht] at h1
  · subst h1
    unfold unqO
    simp [unhexL_hexL, ht, h2]
  · subst h1
    have hl : (34 :: (t ++ [34])).getLast? = some (34 : UInt8) := by
      rw [← List.cons_append, List.getLast?_append]; rfl
    unfold unqO
    simp [ht, h2, hl]
theorem of_unqO {l t : List UInt8} (h : unqO l = some t) : Quotes l t := by
  unfold unqO at h
  split at h
  · rename_i hc
    obtain ⟨hc1, hc2, hc3⟩ := hc
    simp only at h
    split at h
    · rename_i hs
      injection h with h
      subst h
      refine ⟨?_, hs.2⟩
      unfold quoteL
      rw [hs.1]
      match l, hc1, hc2, hc3 with
      | a :: b :: r, _, hc2, hc3 =>
        simp at hc2
        subst hc2
        have hne : b :: r ≠ [] := by simp
        have : (34 :: b :: r).getLast? = (b :: r).getLast? := by simp [List.getLast?_cons_cons]
        rw [this, List.getLast?_eq_some_getLast hne] at hc3
        injection hc3 with hc3
        simp only [if_true, List.tail_cons]
        have hd := List.dropLast_concat_getLast hne
        rw [hc3] at hd
        exact congrArg (List.cons 34) hd
    · cases h
  · match l, h with
    | [], h => cases h
    | c :: r, h =>
      simp only at h
      split at h
      · rename_i hc; subst hc
        cases hr : unhexL r with
        | none => rw [hr] at h; cases h
        | some u =>
          rw [hr] at h
          simp only at h
          split at h
          · rename_i hs
            injection h with h
            subst h
            refine ⟨?_, hs.2⟩
            unfold quoteL
            rw [hs.1, hexL_unhexL r u hr]; rfl
          · cases h
      · cases h
theorem unqO_none {l : List UInt8} (h : ∀ t, ¬ Quotes l t) : unqO l = none := by
  cases hu : unqO l with
  | none => rfl
  | some t => exact absurd (of_unqO hu) (h t)
def unqS (s : ByteArray) : ByteArray := match unqO s.data.toList with | some t => ⟨t.toArray⟩ | none => ⟨#[]⟩
def unqE (s : ByteArray) : Int := match unqO s.data.toList with | some _ => 0 | none => 21
theorem unqS_some {s : ByteArray} {t : List UInt8} (h : unqO s.data.toList = some t) : unqS s = ⟨t.toArray⟩ := by unfold unqS; rw [h]
theorem unqE_some {s : ByteArray} {t : List UInt8} (h : unqO s.data.toList = some t) : unqE s = 0 := by unfold unqE; rw [h]
theorem unqS_none {s : ByteArray} (h : unqO s.data.toList = none) : unqS s = ⟨#[]⟩ := by unfold unqS; rw [h]
theorem unqE_none {s : ByteArray} (h : unqO s.data.toList = none) : unqE s = 21 := by unfold unqE; rw [h]
end Go.Proofs.YtollifnnpihfdaaGreatDoor

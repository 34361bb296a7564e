/- Texts of one proof, laid together. -/
import Derived.Test.YtollifnnpihfdaaGreatDoorC12
import Derived.Test.YtollifnnpihfdaaGreatDoorC15
import Derived.Test.YtollifnnpihfdaaGreatDoorC07
import Derived.Test.YtollifnnpihfdaaGreatDoorC10
import Derived.Test.YtollifnnpihfdaaGreatDoorC13
import Derived.Test.YtollifnnpihfdaaGreatDoorC05
import Derived.Test.YtollifnnpihfdaaGreatDoorC08
import Derived.Test.YtollifnnpihfdaaGreatDoorC01
import Derived.Test.YtollifnnpihfdaaGreatDoorC06
import Derived.Lib.DecodeN
import Derived.Lib.MapLaws
import Derived.Lib.IndexAny
import Derived.Laws.RangeAny
import Derived.Lib.OthersKept
import Derived.Laws.RangeString
import Derived.Lib.Hide
import Derived.WalkSpells
import Derived.LoopTactic
import Derived.Outline
import Derived.RegionTactic
import Derived.IntWalk
import Derived.Deep.QuietTactic
import Derived.BigQuiet
import Derived.WalkMore
/- Lists, actions and permissions of rules, and quoting: tables and contracts. -/
namespace Go.Proofs.YtollifnnpihfdaaGreatDoor
open Go.RowKit
/-- The place of a text among N 1 .. N m, or 0. -/
def idxN (N : Nat → ByteArray) (m : Nat) (s : ByteArray) : Int := match (List.range m).find? (fun n => (N (n + 1)).toList == s.toList) with | some n => (n : Int) + 1 | none => 0
theorem idxN_at {N : Nat → ByteArray} {m : Nat} {s : ByteArray} {k : Nat} (hk : k < m) (h : ∀ j, j < k → N (j + 1) ≠ s) (he : N (k + 1) = s) : idxN N m s = (k : Int) + 1 := by
  have : (List.range m).find? (fun n => (N (n + 1)).toList == s.toList) = some k := by
    rw [List.find?_range_eq_some]
    refine ⟨str_eq he, by simpa using hk, fun j hj => ?_⟩
    simp [str_ne (h j hj)]
  unfold idxN; rw [this]
theorem idxN_none {N : Nat → ByteArray} {m : Nat} {s : ByteArray} (h : ∀ j, j < m → N (j + 1) ≠ s) : idxN N m s = 0 := by
  have : (List.range m).find? (fun n => (N (n + 1)).toList == s.toList) = none := by
    rw [List.find?_range_eq_none]
    intro j hj
    simp [str_ne (h j hj)]
  unfold idxN; rw [this]
theorem idxN_bd (N : Nat → ByteArray) (m : Nat) (s : ByteArray) : 0 ≤ idxN N m s ∧ idxN N m s ≤ m := by
  unfold idxN
  split
  · rename_i n hn
    rw [List.find?_range_eq_some] at hn
    have := hn.2.1
    simp at this
    omega
  · omega
def listF (s : ByteArray) : Int := idxN listN 5 s
def actF (s : ByteArray) : Int := idxN actN 2 s
theorem listF_self {l : Int} (h : 1 ≤ l ∧ l ≤ 5) : listF (listN l.toNat) = l := by
  have H : ∀ k : Fin 5, listF (listN (k.val + 1)) = (k.val : Int) + 1 := by decide +kernel
  have := H ⟨l.toNat - 1, by omega⟩
  have e : l.toNat - 1 + 1 = l.toNat := by omega
  simp only [e] at this
  rw [this]; omega
theorem actF_self {a : Int} (h : a = 1 ∨ a = 2) : actF (actN a.toNat) = a := by
  rcases h with rfl | rfl <;> decide +kernel
def cellsLi : Array Value := (listL.map Value.string).toArray
def cellsAc : Array Value := (actL.map Value.string).toArray
def cellsPb : Array Value := #[.int .i64 4, .int .i64 2, .int .i64 1, .int .i64 8]
def RLists (w : World) : Prop := Glob w 1 cellsLi
def RActs (w : World) : Prop := Glob w 0 cellsAc
def RPerm (w : World) : Prop := Glob w 5 cellsPb
theorem RLists.below {w w' : World} (h : RLists w) (hb : Below w.heap.size w w') : RLists w' := Glob.below h hb (Nat.le_refl _)
theorem RActs.below {w w' : World} (h : RActs w) (hb : Below w.heap.size w w') : RActs w' := Glob.below h hb (Nat.le_refl _)
theorem RPerm.below {w w' : World} (h : RPerm w) (hb : Below w.heap.size w w') : RPerm w' := Glob.below h hb (Nat.le_refl _)
theorem cellsLi_at {k : Nat} (h : k < 6) : cellsLi[k]? = some (.string (listN k)) := by
  have : k = 0 ∨ k = 1 ∨ k = 2 ∨ k = 3 ∨ k = 4 ∨ k = 5 := by omega
  rcases this with rfl | rfl | rfl | rfl | rfl | rfl <;> rfl
theorem cellsAc_at {k : Nat} (h : k < 3) : cellsAc[k]? = some (.string (actN k)) := by
  have : k = 0 ∨ k = 1 ∨ k = 2 := by omega
  rcases this with rfl | rfl | rfl <;> rfl
theorem RLists.at {w : World} (h : RLists w) {k : Nat} (hk : k < 6) : w.cell? ⟨1, k, none⟩ = some (.string (listN k)) := (Glob.cell h k).trans (cellsLi_at hk)
theorem RActs.at {w : World} (h : RActs w) {k : Nat} (hk : k < 3) : w.cell? ⟨0, k, none⟩ = some (.string (actN k)) := (Glob.cell h k).trans (cellsAc_at hk)
theorem list_index (k : Nat) (hk : k < 6) (w : World) : (Instr.index 211 (.agg cellsLi) (.int .i64 k)).run Tryz.prog w = .ok (.string (listN k)) w := by
  have : k = 0 ∨ k = 1 ∨ k = 2 ∨ k = 3 ∨ k = 4 ∨ k = 5 := by omega
  rcases this with h | h | h | h | h | h <;> (subst h; clear hk; show _ = _; kernel_rfl)
theorem act_index (k : Nat) (hk : k < 3) (w : World) : (Instr.index 210 (.agg cellsAc) (.int .i64 k)).run Tryz.prog w = .ok (.string (actN k)) w := by
  have : k = 0 ∨ k = 1 ∨ k = 2 := by omega
  rcases this with h | h | h <;> (subst h; clear hk; show _ = _; kernel_rfl)
attribute [local irreducible] cellsLi cellsAc listN actN
end Go.Proofs.YtollifnnpihfdaaGreatDoor
/- Small functions of rules: contracts. -/
namespace Go.Proofs.YtollifnnpihfdaaGreatDoor
open Go.RowKit
theorem vhasCalls (l : Int) (w : World) : Calls Tryz.prog 119 #[.int .i64 l] w fun e w' => e = .returned (.bool (callsB l)) ∧ w = w' := by
  by_cases h2 : l = 2
  · subst h2
    go_enter Tryz.func119, Tryz.ntmps119
    go_wp2_with fail
    go_ret
    exact ⟨rfl, rfl⟩
  · by_cases h3 : l = 3
    · subst h3
      go_enter Tryz.func119, Tryz.ntmps119
      go_wp2_with fail
      go_ret
      exact ⟨rfl, rfl⟩
    · have b2 : (l == 2) = false := by simpa using h2
      have b3 : (l == 3) = false := by simpa using h3
      have HR := Lib.hid (show callsB l = false by unfold callsB; simp [h2, h3])
      clear h2 h3
      go_enter Tryz.func119, Tryz.ntmps119
      go_wp2_with fail
      go_ret
      exact ⟨ret_b HR.out.symm, rfl⟩
theorem bit_cases {n : Int} (h : 0 ≤ n ∧ n ≤ 15) : ∃ a b c d : Bool, n.toNat.testBit 2 = a ∧ n.toNat.testBit 1 = b ∧ n.toNat.testBit 0 = c ∧ n.toNat.testBit 3 = d ∧
    bits .and .i64 n 4 = (if a then 4 else 0) ∧ bits .and .i64 n 2 = (if b then 2 else 0) ∧ bits .and .i64 n 1 = (if c then 1 else 0) ∧ bits .and .i64 n 8 = (if d then 8 else 0) := by
  have H : ∀ k : Fin 16, bits .and .i64 (k.val : Int) 4 = (if k.val.testBit 2 then 4 else 0) ∧ bits .and .i64 (k.val : Int) 2 = (if k.val.testBit 1 then 2 else 0) ∧ bits .and .i64 (k.val : Int) 1 = (if k.val.testBit 0 then 1 else 0) ∧ bits .and .i64 (k.val : Int) 8 = (if k.val.testBit 3 then 8 else 0) := by decide +kernel
  have := H ⟨n.toNat, by omega⟩
  have e : ((n.toNat : Nat) : Int) = n := by omega
  simp only [e] at this
  exact ⟨_, _, _, _, rfl, rfl, rfl, rfl, this.1, this.2.1, this.2.2.1, this.2.2.2⟩
def permB (a b c d : Bool) : ByteArray := ⟨((if a then [(114 : UInt8)] else []) ++ (if b then [119] else []) ++ (if c then [120] else []) ++ (if d then [97] else [])).toArray⟩
theorem permS_bits (n : Int) : permS n = permB (n.toNat.testBit 2) (n.toNat.testBit 1) (n.toNat.testBit 0) (n.toNat.testBit 3) := rfl
set_option maxRecDepth 100000 in
set_option maxHeartbeats 2000000 in
theorem rperms (n : Int) (h : 0 ≤ n ∧ n ≤ 15) (w : World) : Calls Tryz.prog 130 #[.int .i64 n] w fun e w' => e = .returned (.string (permS n)) ∧ w = w' := by
  obtain ⟨a, b, c, d, h1, h2, h3, h4, e1, e2, e3, e4⟩ := bit_cases h
  rw [permS_bits, h1, h2, h3, h4]
  clear h1 h2 h3 h4 h
  cases a <;> cases b <;> cases c <;> cases d
  all_goals
    simp only [if_true, if_false, Bool.false_eq_true] at e1 e2 e3 e4
    go_enter Tryz.func130, Tryz.ntmps130
    go_wp2_with fail
    go_ret
    exact ⟨rfl, rfl⟩
end Go.Proofs.YtollifnnpihfdaaGreatDoor
/- strings.IndexAny at the bytes of operators, of whatever text: the first byte of an operator. -/
namespace Go.Proofs.YtollifnnpihfdaaGreatDoor
open Go.RowKit
def opsS : ByteArray := ⟨#[61, 33, 60, 62, 38]⟩
theorem get_list (s : ByteArray) (j : Nat) (b : UInt8) (h : s.data.toList[j]? = some b) : s.get! j = b := by
  obtain ⟨hj, e⟩ := List.getElem?_eq_some_iff.1 h
  have hj' : j < s.data.size := by simpa using hj
  show s.data[j]! = b
  rw [getElem!_pos s.data j hj']
  simpa using e
theorem bsz' (s : ByteArray) : s.data.toList.length = s.size := Array.length_toList
structure HiR (s : ByteArray) (i : Nat) (r k : Nat) : Prop where
  lo : 128 ≤ r
  top : r ≤ 1114111
  ok : r < 55296 ∨ 57344 ≤ r
  pos : 1 ≤ k
  fit : i + k ≤ s.size
  all : ∀ j b, i ≤ j → j < i + k → s.data.toList[j]? = some b → 128 ≤ b.toNat
theorem hi_spec (s : ByteArray) (i : Nat) (h : i < s.size) (hx : 128 ≤ (s[i]).toNat) : HiR s i (Utf8.decode s i).1 (Utf8.decode s i).2 := by
  have h0 : (s.get! i).toNat = (s[i]).toNat := by
    rw [get_list s i s[i]]
    rw [List.getElem?_eq_getElem (by rw [bsz']; exact h)]; rfl
  have key : ∀ j b, s.data.toList[j]? = some b → b.toNat = (s.get! j).toNat := fun j b hb => by rw [get_list s j b hb]
  rw [Lib.decode_at]
  have t0 := (s.get! i).toNat_lt
  generalize hn : s.size - i = n
  generalize h1 : (s.get! (i + 1)).toNat = b1
  generalize h2 : (s.get! (i + 2)).toNat = b2
  generalize h3 : (s.get! (i + 3)).toNat = b3
  rw [h0] at t0 ⊢
  have hall : ∀ k, (1 < k → 128 ≤ b1) → (2 < k → 128 ≤ b2) → (3 < k → 128 ≤ b3) → k ≤ 4 → ∀ j b, i ≤ j → j < i + k → s.data.toList[j]? = some b → 128 ≤ b.toNat := by
    intro k g1 g2 g3 g4 j b hj1 hj2 hb
    rw [key j b hb]
    have hc : j = i ∨ j = i + 1 ∨ j = i + 2 ∨ j = i + 3 := by omega
    rcases hc with rfl | rfl | rfl | rfl
    · omega
    · have := g1 (by omega); omega
    · have := g2 (by omega); omega
    · have := g3 (by omega); omega
  rcases Lib.decodeN_shape n (s[i]).toNat b1 b2 b3 with ⟨a, e⟩ | ⟨a1, a2, a3, a4, e⟩ | ⟨a1, a2, a3, a4, a5, a6, e⟩ | ⟨a1, a2, a3, a4, a5, a6, a7, e⟩ | e
  · omega
  · rw [e]; exact ⟨a4, by show _ ≤ _; omega, by show _ ∨ _; omega, by show 1 ≤ 2; omega, by show i + 2 ≤ _; omega, hall 2 (by omega) (by omega) (by omega) (by omega)⟩
  · rw [e]; exact ⟨by show _ ≤ _; omega, by show _ ≤ _; omega, by show _ ∨ _; omega, by show 1 ≤ 3; omega, by show i + 3 ≤ _; omega, hall 3 (by omega) (by omega) (by omega) (by omega)⟩
  · rw [e]; exact ⟨by show _ ≤ _; omega, by show _ ≤ _; omega, by show _ ∨ _; omega, by show 1 ≤ 4; omega, by show i + 4 ≤ _; omega, hall 4 (by omega) (by omega) (by omega) (by omega)⟩
  · rw [e]; exact ⟨by decide, by decide, by decide, by decide, by show i + 1 ≤ _; omega, hall 1 (by omega) (by omega) (by omega) (by omega)⟩
/-- The bytes of a rune that is no ASCII byte: two to four, the last a continuation. -/
theorem enc_hi (r : Nat) (h1 : 128 ≤ r) (h2 : r ≤ 1114111) (h3 : r < 55296 ∨ 57344 ≤ r) : ∃ (R : ByteArray) (k : Nat) (c : UInt8), Utf8.encode (r : Int) = R ∧ R.size = k + 1 ∧ 1 ≤ k ∧ k ≤ 3 ∧ 128 ≤ c.toNat ∧ ∃ h : k < R.size, R[k] = c := by
  have hv : Utf8.valid (r : Int) = true := by
    unfold Utf8.valid
    simp
    omega
  have hm : ∀ n : Nat, n < 64 → 128 ≤ (UInt8.ofNat (0x80 + n)).toNat := fun n hn => by
    rw [UInt8.toNat_ofNat']; omega
  by_cases c1 : r < 2048
  · have e : Utf8.encode (r : Int) = ⟨#[UInt8.ofNat (0xC0 + r / 64), UInt8.ofNat (0x80 + r % 64)]⟩ := by
      unfold Utf8.encode; rw [hv]; simp only [if_true, Int.toNat_natCast]; rw [if_neg (by omega), if_pos (by omega)]
    exact ⟨_, 1, _, e, rfl, by decide, by decide, hm (r % 64) (by omega), by show 1 < 2; decide, rfl⟩
  · by_cases c2 : r < 65536
    · have e : Utf8.encode (r : Int) = ⟨#[UInt8.ofNat (0xE0 + r / 4096), UInt8.ofNat (0x80 + r / 64 % 64), UInt8.ofNat (0x80 + r % 64)]⟩ := by
        unfold Utf8.encode; rw [hv]; simp only [if_true, Int.toNat_natCast]; rw [if_neg (by omega), if_neg (by omega), if_pos (by omega)]
      exact ⟨_, 2, _, e, rfl, by decide, by decide, hm (r % 64) (by omega), by show 2 < 3; decide, rfl⟩
    · have e : Utf8.encode (r : Int) = ⟨#[UInt8.ofNat (0xF0 + r / 262144), UInt8.ofNat (0x80 + r / 4096 % 64), UInt8.ofNat (0x80 + r / 64 % 64), UInt8.ofNat (0x80 + r % 64)]⟩ := by
        unfold Utf8.encode; rw [hv]; simp only [if_true, Int.toNat_natCast]; rw [if_neg (by omega), if_neg (by omega), if_neg (by omega)]
      exact ⟨_, 3, _, e, rfl, by decide, by decide, hm (r % 64) (by omega), by show 3 < 4; decide, rfl⟩
theorem ops_list : opsS.data.toList = [61, 33, 60, 62, 38] := rfl
theorem ops_contains (c : UInt8) : opsS.data.toList.contains c = opc c := by
  rw [ops_list]
  have H : ∀ n : Fin 256, ([61, 33, 60, 62, 38] : List UInt8).contains (UInt8.ofNat n.val) = opc (UInt8.ofNat n.val) := by decide +kernel
  have := H ⟨c.toNat, c.toNat_lt⟩
  simpa using this
theorem ops_ascii : ∀ (j : Nat) b, opsS.data.toList[j]? = some b → b.toNat < 128 := by
  intro j b hb
  have hm := List.mem_of_getElem? hb
  rw [ops_list] at hm
  simp at hm
  rcases hm with rfl | rfl | rfl | rfl | rfl <;> decide
theorem ops_hi {c : UInt8} (h : 128 ≤ c.toNat) : opsS.data.toList.contains c = false := by
  rw [← Bool.not_eq_true]
  intro hc
  rw [List.contains_iff_mem] at hc
  obtain ⟨j, hj⟩ := List.mem_iff_getElem?.1 hc
  have := ops_ascii j c hj
  omega
theorem skip_hi {s : ByteArray} {i k : Nat} (hn : Lib.NoAny s.data.toList opsS.data.toList i) (hall : ∀ j b, i ≤ j → j < i + k → s.data.toList[j]? = some b → 128 ≤ b.toNat) : Lib.NoAny s.data.toList opsS.data.toList (i + k) := fun j b hj hb => by
  by_cases h : j < i
  · exact hn j b h hb
  · exact ops_hi (hall j b (by omega) hj hb)
theorem idx_hi {c : UInt8} (h : 128 ≤ c.toNat) : ∀ l : List UInt8, (∀ b ∈ l, b.toNat < 128) → Lib.indexByte l c = -1
  | [], _ => rfl
  | b :: l, hl => by
    have hb : (b == c) = false := by
      rw [beq_eq_false_iff_ne]; intro e; have := hl b List.mem_cons_self; rw [e] at this; omega
    have ih := idx_hi h l (fun x hx => hl x (List.mem_cons_of_mem _ hx))
    simp [Lib.indexByte, hb, ih]
theorem ops_mem : ∀ b ∈ opsS.data.toList, b.toNat < 128 := by rw [ops_list]; decide
theorem vvalidrune (r : Int) (w : World) : Calls Tryz.prog 301 #[.int .i32 r] w fun e w' => e = .returned (.bool (Lib.validRune r)) ∧ w = w' :=
  (Tryz.utf8_ValidRune r w).mono fun _ _ h => ⟨h.1, h.2.symm⟩
theorem vibs (s : ByteArray) (c : UInt8) (w : World) : Calls Tryz.prog 300 #[.string s, .int .u8 (c.toNat : Int)] w fun e w' => e = .returned (.int .i64 (Lib.indexByte s.data.toList c)) ∧ w = w' :=
  (Tryz.strings_IndexByte s (c.toNat : Int) w).mono fun _ _ h => ⟨by rw [h.1]; simp, h.2.symm⟩
theorem ops_at (i : Nat) (hi : i < 5) (c : UInt8) (h : 128 ≤ c.toNat) : ∃ h' : i < opsS.size, ((((opsS[i]'h').toNat : Int)) != (c.toNat : Int)) = true := by
  have h' : i < opsS.size := hi
  refine ⟨h', ?_⟩
  have hm := ops_mem (opsS[i]'h') (by
    have : opsS.data.toList[i]? = some (opsS[i]'h') := List.getElem?_eq_getElem (by rw [bsz']; exact h')
    exact List.mem_of_getElem? this)
  simp
  omega
theorem ops_ext (i : Nat) (hi : i ≤ 5) : ∀ b ∈ (opsS.extract i opsS.size).data.toList, b.toNat < 128 := by
  intro b hb
  have : (opsS.extract i opsS.size).data.toList = opsS.data.toList.drop i := by
    have hh : opsS.size = opsS.data.toList.length := (bsz' _).symm
    rw [Lib.extract_data, hh, List.take_of_length_le (by rw [List.length_drop]; omega)]
  rw [this] at hb
  exact ops_mem b (List.mem_of_mem_drop hb)
set_option maxRecDepth 100000 in
set_option maxHeartbeats 4000000 in
theorem vidxrune_z (z : Int) (R : ByteArray) (k : Nat) (c : UInt8) (z1 : 128 ≤ z) (b1 : (z == 65533) = false) (he : Hid (Utf8.encode z = R)) (hvr : Hid (Lib.validRune z = true)) (hs : R.size = k + 1) (hk1 : 1 ≤ k) (hk3 : k ≤ 3) (hc : 128 ≤ c.toNat) (hk : k < R.size) (hR : R[k] = c) (w : World) :
    Calls Tryz.prog 292 #[.string opsS, .int .i32 z] w fun e w' => e = .returned (.int .i64 (-1)) ∧ Below w.heap.size w w' := by
  obtain ⟨hko, hne⟩ := ops_at k (by omega) c hc
  have HX := Lib.hid (idx_hi hc _ (ops_ext (k + 1) (by omega)))
  have hsz : opsS.size = 5 := rfl
  have HC := Lib.hid (show ∀ W, Calls Tryz.prog 300 #[.string (opsS.extract (k + 1) 5), .int .u8 (c.toNat : Int)] W fun e w' => e = .returned (.int .i64 (-1)) ∧ w' = W from fun W =>
    (vibs (opsS.extract (k + 1) 5) c W).mono fun _ _ h => ⟨by rw [h.1]; exact congrArg (fun x => Ending.returned (Value.int .i64 x)) HX.out, h.2.symm⟩)
  have he' := he.out
  have hs' : (R.size : Int) = (k : Int) + 1 := by omega
  have k5 : (k : Int) < 5 := by omega
  have k0 : (0 : Int) ≤ (k : Int) := by omega
  have HS := Lib.hid hs
  have hkl : k < k + 1 := by omega
  clear hs
  go_enter Tryz.func292, Tryz.ntmps292
  go_wp2_with fail
  refine (vvalidrune z _).mono ?_
  rintro e w' ⟨rfl, rfl⟩
  rw [hvr.out]
  go_wp2_with fail
  go_step3
  go_wp2_with fail
  go_loop [9] (fun i => i = .int .i64 (k : Int)) (fun _ => 0)
  case atStart => rfl
  case round =>
    subst hrel
    go_wp2_with fail
    go_step3
    go_wp2_with fail
    go_quiet (fail)
    have hbq := below_drewN (Below.refl w.heap.size w) nq
    generalize w.drewN nq = w2 at *
    go_wp2_with fail
    have c3 : (0 : Int) ≤ (k : Int) + 1 := by omega
    have c4 : (k : Int) + 1 ≤ 5 := by omega
    have c5 : IntKind.i64.wrap ((k : Int) + 1) = (k : Int) + 1 := IntWalk.i64_in _ (by omega)
    have c6 : ((k : Int) + 1).toNat = k + 1 := by omega
    go_quiet ((go_at_call 300; exact Calls.quiet_of_same (HC.out _)))
    clear c5 c6
    go_wp2_with fail
    simp +zetaDelta only [Exit.noGoto_ret, Exit.inBlock, Exit.then]
    go_ret
    exact ⟨rfl, below_drewN hbq _⟩
set_option maxRecDepth 100000 in
set_option maxHeartbeats 4000000 in
theorem vidxrune_err (w : World) :
    Calls Tryz.prog 292 #[.string opsS, .int .i32 65533] w fun e w' => e = .returned (.int .i64 (-1)) ∧ Below w.heap.size w w' := by
  have hsz : opsS.size = 5 := rfl
  go_enter Tryz.func292, Tryz.ntmps292
  go_wp2_with fail
  go_loopg [5, 6] 5 (fun g _ _ wx => ∃ i : Nat, i + g = 5 ∧ wx = w.iter opsS i)
  case atStart => exact ⟨0, by omega, rfl⟩
  case round =>
    obtain ⟨i, hig, rfl⟩ := hrel
    cases gk with
    | zero =>
      obtain rfl : i = 5 := by omega
      have hnx := run_next_end (P := Tryz.prog) w opsS 5
      go_wp2
      go_ret
      exact ⟨rfl, (Below.refl _ _).alloc (Nat.le_refl _) _⟩
    | succ g =>
      have hi : i < opsS.size := by omega
      have ha := ops_mem (opsS[i]'hi) (by
        have : opsS.data.toList[i]? = some (opsS[i]'hi) := List.getElem?_eq_getElem (by rw [bsz']; exact hi)
        exact List.mem_of_getElem? this)
      have hnx := fun ty => run_next_ascii (P := Tryz.prog) w opsS i ty hi ha
      generalize opsS[i] = x at *
      have b1 : ((x.toNat : Int) == 65533) = false := by simp; omega
      go_wp2_with fail
      go_roundg g
      case measure => omega
      case rel => exact ⟨i + 1, by omega, rfl⟩
theorem vidxrune_lo (x : UInt8) (hx : x.toNat < 128) (w : World) : Calls Tryz.prog 292 #[.string opsS, .int .i32 (x.toNat : Int)] w fun e w' => e = .returned (.int .i64 (Lib.indexByte opsS.data.toList x)) ∧ w = w' :=
  (Tryz.strings_IndexRune_ascii opsS (x.toNat : Int) w (by omega) (by omega)).mono fun _ _ h => ⟨by rw [h.1]; simp, h.2.symm⟩
theorem vidxrune_hi (r : Nat) (h1 : 128 ≤ r) (h2 : r ≤ 1114111) (h3 : r < 55296 ∨ 57344 ≤ r) (h4 : r ≠ 65533) (w : World) :
    Calls Tryz.prog 292 #[.string opsS, .int .i32 (r : Int)] w fun e w' => e = .returned (.int .i64 (-1)) ∧ Below w.heap.size w w' := by
  obtain ⟨R, k, c, he, hs, hk1, hk3, hc, hk, hR⟩ := enc_hi r h1 h2 h3
  have hvr : Lib.validRune (r : Int) = true := by unfold Lib.validRune; simp; omega
  have b1 : ((r : Int) == 65533) = false := by rw [beq_eq_false_iff_ne]; omega
  exact vidxrune_z (r : Int) R k c (by omega) b1 (Lib.hid he) (Lib.hid hvr) hs hk1 hk3 hc hk hR w
def IdxPost (s : ByteArray) (w : World) (e : Ending) (w' : World) : Prop := Below w.heap.size w w' ∧ ((e = .returned (.int .i64 (-1)) ∧ s.data.toList.all (fun c => !opc c) = true) ∨
  ∃ i : Nat, i < s.size ∧ e = .returned (.int .i64 (i : Int)) ∧ (s.data.toList.take i).all (fun c => !opc c) = true ∧ ∃ c r, s.data.toList.drop i = c :: r ∧ opc c = true)
theorem noany_all {l : List UInt8} {i : Nat} (h : Lib.NoAny l opsS.data.toList i) : (l.take i).all (fun c => !opc c) = true := by
  rw [List.all_eq_true]
  intro c hc
  obtain ⟨j, hj⟩ := List.mem_iff_getElem?.1 hc
  have hji : j < i := by
    have := (List.getElem?_eq_some_iff.1 hj).1
    rw [List.length_take] at this; omega
  rw [List.getElem?_take_of_lt hji] at hj
  rw [← ops_contains, h j c hji hj]; rfl
theorem idx_none {s : ByteArray} (h : Lib.NoAny s.data.toList opsS.data.toList s.size) : s.data.toList.all (fun c => !opc c) = true := by
  have := noany_all h
  rwa [List.take_of_length_le (by rw [bsz']; exact Nat.le_refl _)] at this
theorem idx_some {s : ByteArray} {i : Nat} {x : UInt8} (h : Lib.NoAny s.data.toList opsS.data.toList i) (hx : s.data.toList[i]? = some x) (hc : opsS.data.toList.contains x = true) :
    i < s.size ∧ (s.data.toList.take i).all (fun c => !opc c) = true ∧ ∃ c r, s.data.toList.drop i = c :: r ∧ opc c = true := by
  obtain ⟨hl, e⟩ := List.getElem?_eq_some_iff.1 hx
  refine ⟨by rw [bsz'] at hl; exact hl, noany_all h, x, s.data.toList.drop (i + 1), ?_, by rw [← ops_contains]; exact hc⟩
  rw [List.drop_eq_getElem_cons hl, e]
/-- The first byte of an operator, or none. -/
theorem noany_cases (l : List UInt8) : (Lib.indexAny l opsS.data.toList = -1 ∧ Lib.NoAny l opsS.data.toList l.length) ∨ ∃ (i : Nat) (x : UInt8), Lib.indexAny l opsS.data.toList = (i : Int) ∧ Lib.NoAny l opsS.data.toList i ∧ l[i]? = some x ∧ opsS.data.toList.contains x = true := by
  by_cases h : Lib.NoAny l opsS.data.toList l.length
  · exact .inl ⟨Lib.indexAny_none h, h⟩
  · have key : ∀ d i, l.length - i = d → Lib.NoAny l opsS.data.toList i → ¬ Lib.NoAny l opsS.data.toList l.length → ∃ (i : Nat) (x : UInt8), Lib.NoAny l opsS.data.toList i ∧ l[i]? = some x ∧ opsS.data.toList.contains x = true := by
      intro d
      induction d with
      | zero =>
        intro i hd hn hno
        exact absurd (fun j b hj hb => hn j b (by omega) hb) hno
      | succ d ih =>
        intro i hd hn hno
        have hi : i < l.length := by omega
        cases hc : opsS.data.toList.contains l[i]
        · exact ih (i + 1) (by omega) (hn.succ (List.getElem?_eq_getElem hi) hc) hno
        · exact ⟨i, l[i], hn, List.getElem?_eq_getElem hi, hc⟩
    obtain ⟨i, x, h1, h2, h3⟩ := key _ 0 rfl (Lib.NoAny.zero _ _) h
    exact .inr ⟨i, x, Lib.indexAny_hit h1 h2 h3, h1, h2, h3⟩
theorem vidx_long (s : ByteArray) (w : World) (h8 : 8 < s.size) (hs : s.size ≤ 1000000) : Calls Tryz.prog 288 #[.string s, .string opsS] w (IdxPost s w) := by
  have hz := zero_of_info (P := Tryz.prog) (t := 357) (v := .agg (Array.replicate 256 (.bool false))) (n := 256) (by kernel_rfl)
  refine (Tryz.strings_IndexAny_long hz.1 s opsS w (by decide) h8 (by omega) (by decide) ops_ascii).mono ?_
  rintro e w' ⟨h1, h2⟩
  refine ⟨by rw [h2]; exact ((Below.refl _ _).alloc (Nat.le_refl _) _).alloc (by simp) _, ?_⟩
  rcases noany_cases s.data.toList with ⟨k1, k2⟩ | ⟨i, x, k1, k2, k3, k4⟩
  · rw [k1] at h1
    rw [bsz'] at k2
    exact .inl ⟨h1, idx_none k2⟩
  · rw [k1] at h1
    obtain ⟨q1, q2, q3⟩ := idx_some k2 k3 k4
    exact .inr ⟨i, q1, h1, q2, q3⟩
theorem vascii (n : Int) (w : World) : Calls Tryz.prog 293 #[.int .i64 n] w fun e w' => e = .returned (.bool (decide (8 < n))) ∧ w = w' := by
  go_enter Tryz.func293, Tryz.ntmps293
  go_wp2
  go_ret
  exact ⟨rfl, rfl⟩
/-- What the loop keeps: the iterator stands at i. -/
structure ItSt (s : ByteArray) (w wx : World) (i : Nat) : Prop where
  it : wx.heap[w.heap.size]? = some (.stringIter s i)
  lt : Below w.heap.size w wx
theorem ItSt.start (s : ByteArray) (w : World) : ItSt s w (w.iter s 0) 0 := ⟨World.iter_heap w s 0, (Below.refl _ _).alloc (Nat.le_refl _) _⟩
theorem ItSt.move {s : ByteArray} {w wx : World} {i : Nat} (h : ItSt s w wx i) (j : Nat) : ItSt s w (wx.iterAt w.heap.size s j) j :=
  ⟨Lib.iterAt_heap wx _ s i j h.it, h.lt.trans ⟨rfl, rfl, rfl, by simp [World.iterAt], fun k hk => by simp [World.iterAt, Array.getElem?_setIfInBounds_ne (show w.heap.size ≠ k by omega)]⟩⟩
theorem ItSt.below {s : ByteArray} {w wx wy : World} {i : Nat} (h : ItSt s w wx i) (hb : Below wx.heap.size wx wy) : ItSt s w wy i :=
  ⟨(hb.block _ (Array.getElem?_eq_some_iff.1 h.it).1).trans h.it, h.lt.trans (hb.mono h.lt.size)⟩
theorem idx_lo {x : UInt8} (h : opsS.data.toList.contains x = false) : Lib.indexByte opsS.data.toList x < 0 := by
  have := Lib.contains_iff_indexByte opsS.data.toList x
  rw [h] at this
  have := of_decide_eq_false this.symm
  omega
theorem idx_in {x : UInt8} (h : opsS.data.toList.contains x = true) : 0 ≤ Lib.indexByte opsS.data.toList x := by
  have := Lib.contains_iff_indexByte opsS.data.toList x
  rw [h] at this
  exact of_decide_eq_true this.symm
theorem opsS_list : opsS.toList = [61, 33, 60, 62, 38] := by decide +kernel
set_option maxRecDepth 100000 in
set_option maxHeartbeats 4000000 in
theorem vidx_short (s : ByteArray) (w : World) (h8 : s.size ≤ 8) : Calls Tryz.prog 288 #[.string s, .string opsS] w (IdxPost s w) := by
  have hemp : opsS.toList.isEmpty = false := by rw [opsS_list]; rfl
  have hemp2 : (opsS.toList == []) = false := by rw [opsS_list]; rfl
  have hsz : opsS.size = 5 := rfl
  have h8z : decide ((8 : Int) < (s.size : Int)) = false := decide_eq_false (by omega)
  go_enter Tryz.func288, Tryz.ntmps288
  go_wp2_with fail
  refine (vascii _ _).mono ?_
  rintro e w' ⟨rfl, rfl⟩
  rw [h8z]
  go_wp2_with fail
  go_loopg [9, 10] s.size (fun g _ _ wx => ∃ i : Nat, i + g = s.size ∧ ItSt s w wx i ∧ Hid (Lib.NoAny s.data.toList opsS.data.toList i))
  case atStart => exact ⟨0, by omega, ItSt.start s w, Lib.NoAny.zero _ _⟩
  case round =>
    obtain ⟨i, hig, hst, hno⟩ := hrel
    have HST := Lib.hid hst
    cases gk with
    | zero =>
      obtain rfl : i = s.size := by omega
      have HN := Lib.hid (idx_none hno.out)
      have hnx := fun ty => Lib.run_next_end_at (P := Tryz.prog) _ w.heap.size s s.size ty hst.it (Nat.lt_irrefl _)
      clear hst hno
      go_wp2_with fail
      go_ret
      exact ⟨HST.out.lt, .inl ⟨rfl, HN.out⟩⟩
    | succ g =>
      have hi : i < s.size := by omega
      obtain ⟨x, hx⟩ : ∃ x : UInt8, s[i]'hi = x := ⟨_, rfl⟩
      have hxl : s.data.toList[i]? = some x := by rw [← hx]; exact Lib.data_getElem? s i hi
      have HX := Lib.hid hxl
      by_cases hx128 : x.toNat < 128
      · have hnx := fun ty => Lib.run_next_ascii_at (P := Tryz.prog) _ w.heap.size s i ty hst.it hi (by rw [hx]; exact hx128)
        rw [hx] at hnx
        have HM := Lib.hid (hst.move (i + 1))
        clear hxl hx hst
        cases hin : opsS.data.toList.contains x
        · have hneg := idx_lo hin
          have HIN := Lib.hid hin
          clear hin
          go_wp2_with fail
          refine (vidxrune_lo x hx128 _).mono ?_
          rintro e w' ⟨rfl, rfl⟩
          go_wp2_with fail
          go_roundg g
          case measure => omega
          case rel => exact ⟨i + 1, by omega, HM.out, Lib.hid (hno.out.succ HX.out HIN.out)⟩
        · have hpos := idx_in hin
          have HIN := Lib.hid (idx_some hno.out HX.out hin)
          clear hin
          go_wp2_with fail
          refine (vidxrune_lo x hx128 _).mono ?_
          rintro e w' ⟨rfl, rfl⟩
          go_wp2_with fail
          go_ret
          exact ⟨HM.out.lt, .inr ⟨i, HIN.out.1, rfl, HIN.out.2.1, HIN.out.2.2⟩⟩
      · have hspec := hi_spec s i hi (by rw [hx]; omega)
        have hnx := fun ty => Lib.run_next_any_at (P := Tryz.prog) _ w.heap.size s i ty hst.it hi
        generalize (Utf8.decode s i).1 = r at *
        generalize (Utf8.decode s i).2 = k at *
        have HM := Lib.hid (hst.move (i + k))
        have HSK := Lib.hid (skip_hi hno.out hspec.all)
        have hk1 := hspec.pos
        have hk2 := hspec.fit
        have HV := Lib.hid (fun (W : World) (hr : r ≠ 65533) => vidxrune_hi r hspec.lo hspec.top hspec.ok hr W)
        clear hxl hx hst hspec hx128
        by_cases hr : r = 65533
        · subst hr
          go_wp2_with fail
          refine (vidxrune_err _).mono ?_
          rintro e w2 ⟨rfl, hb⟩
          have HM2 := Lib.hid (HM.out.below hb)
          clear hb
          go_wp2_with fail
          go_roundg (s.size - (i + k))
          case measure => omega
          case rel => exact ⟨i + k, by omega, HM2.out, HSK⟩
        · have HV2 := Lib.hid (fun W => HV.out W hr)
          clear hr HV
          obtain ⟨z, hz⟩ : ∃ z : Int, z = (r : Int) := ⟨_, rfl⟩
          rw [← hz] at hnx HV2
          clear hz
          go_wp2_with fail
          refine (HV2.out _).mono ?_
          rintro e w2 ⟨rfl, hb⟩
          have HM2 := Lib.hid (HM.out.below hb)
          clear hb
          go_wp2_with fail
          go_roundg (s.size - (i + k))
          case measure => omega
          case rel => exact ⟨i + k, by omega, HM2.out, HSK⟩
theorem vindexany (s : ByteArray) (w : World) (hs : s.size ≤ 1000000) : Calls Tryz.prog 288 #[.string s, .string opsS] w (IdxPost s w) := by
  by_cases h : s.size ≤ 8
  · exact vidx_short s w h
  · exact vidx_long s w (by omega) hs
end Go.Proofs.YtollifnnpihfdaaGreatDoor

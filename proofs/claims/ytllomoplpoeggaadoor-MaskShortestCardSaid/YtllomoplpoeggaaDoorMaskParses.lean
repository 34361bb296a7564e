/- Both Parse of layer 1 return readM; the walks of the laws MaskParses and MaskBack. -/
import Derived.Test.YtllomoplpoeggaaDoorMaskParse
import Derived.Test.YtllomoplpoeggaaDoorMaskRParse
import Derived.Test.YtllomoplpoeggaaDoorMaskShort
import Derived.Test.YtllomoplpoeggaaDoorMaskReads
namespace Go.Proofs.YtllomoplpoeggaaDoor
open Go.RowKit
def readV (s : ByteArray) : Value := .tuple #[.int .u64 ((readM s).1 : Int), .int .i64 (readM s).2]
theorem readM_list {s : ByteArray} (h1 : s ≠ txAll) (h2 : s ≠ txNone) : readM s = readL (piecesOf 44 s) := by unfold readM; rw [if_neg h1, if_neg h2]
theorem tx_no {s : ByteArray} (h1 : s ≠ txAll) (h2 : s ≠ txNone) : (s.toList == [97, 108, 108]) = false ∧ (s.toList == [110, 111, 110, 101]) = false := by
  have a := str_ne h1
  have b := str_ne h2
  have e1 : txAll.toList = [97, 108, 108] := by decide +kernel
  have e2 : txNone.toList = [110, 111, 110, 101] := by decide +kernel
  rw [e1] at a
  rw [e2] at b
  exact ⟨a, b⟩
def ReadPost (s : ByteArray) (w : World) (e : Ending) (w' : World) : Prop := e = .returned (readV s) ∧ Below w.heap.size w w'
theorem vmparse (s : ByteArray) (w : World) (hs : s.size ≤ 1000) : Calls Tryd.prog 22 #[.string s] w (ReadPost s w) := by
  by_cases h1 : s = txAll
  · subst h1; exact (vmparse_all w).mono fun _ _ h => ⟨h.1, h.2⟩
  by_cases h2 : s = txNone
  · subst h2; exact (vmparse_none w).mono fun _ _ h => ⟨h.1, h.2⟩
  refine (vmparse_list s w (by omega) (tx_no h1 h2).1 (tx_no h1 h2).2).mono fun _ _ h => ⟨?_, h.2⟩
  rw [h.1]; unfold readV; rw [readM_list h1 h2]
theorem rmparse (s : ByteArray) (w : World) (hs : s.size ≤ 1000) : Calls Tryd.prog 23 #[.string s] w (ReadPost s w) := by
  by_cases h1 : s = txAll
  · subst h1; exact (rmparse_all w).mono fun _ _ h => ⟨h.1, h.2⟩
  by_cases h2 : s = txNone
  · subst h2; exact (rmparse_none w).mono fun _ _ h => ⟨h.1, h.2⟩
  refine (rmparse_list s w hs (tx_no h1 h2).1 (tx_no h1 h2).2).mono fun _ _ h => ⟨?_, h.2⟩
  rw [h.1]; unfold readV; rw [readM_list h1 h2]
attribute [local irreducible] readM maskS
set_option maxHeartbeats 1000000 in
theorem maskParses_walk (s : ByteArray) (w : World) :
    Calls Tryd.prog 6 #[.string s] w fun e w' => e = .returned (.bool true) ∧ Below w.heap.size w w' := by
  by_cases hs : 200 < s.size
  · go_enter Tryd.func6, Tryd.ntmps6
    go_wp2_with fail
    refine (awake1 _).mono ?_
    rintro e w6 ⟨rfl, hb6⟩
    go_wp2_with fail
    go_ret
    exact ⟨rfl, hb6⟩
  · go_enter Tryd.func6, Tryd.ntmps6
    go_wp2_with fail
    refine (vmparse s _ (by omega)).mono ?_
    rintro e w1 ⟨rfl, hb1⟩
    unfold readV
    go_wp2_with fail
    refine (rmparse s _ (by omega)).mono ?_
    rintro e w2 ⟨rfl, hb2⟩
    unfold readV
    have hb12 := below_then hb1 hb2
    go_wp2_with fail
    refine (awake1 _).mono ?_
    rintro e w3 ⟨rfl, hb3⟩
    go_wp2_with fail
    go_ret
    exact ⟨rfl, below_then hb12 hb3⟩
theorem grp_len : ∀ l : List Nat, (grp l).length ≤ l.length
  | [] => Nat.le_refl _
  | a :: l => by
    have ih := grp_len l
    unfold grp
    split
    · simp
    · rename_i b c r hg
      rw [hg] at ih
      split
      · simp at ih ⊢; omega
      · simp at ih ⊢; omega
theorem mod_lt32 (m : Nat) : m % 4294967296 < 4294967296 := Nat.mod_lt _ (by omega)
theorem maskS_size (m : Nat) : (maskS m).size ≤ 1000 := by
  unfold maskS
  split
  · show 3 ≤ 1000; omega
  · split
    · show 4 ≤ 1000; omega
    · show (Lib.join ((grp (memF m 0)).map rtext) [44]).toArray.size ≤ 1000
      rw [List.size_toArray]
      have hG : ∀ p ∈ grp (memF m 0), p.1 < 32 ∧ p.2 < 32 := grp_small fun x hx => (memF_ge m 0 x hx).2
      have := join_len ((grp (memF m 0)).map rtext) (fun x hx => by obtain ⟨p, hp, rfl⟩ := List.mem_map.1 hx; exact rtext_len p (hG p hp))
      have hl : (grp (memF m 0)).length ≤ (memF m 0).length := grp_len _
      have hm := memF_len m 0
      rw [List.length_map] at this
      omega
set_option maxHeartbeats 1000000 in
theorem maskBack_walk (m : Nat) (w : World) (hm : m < 18446744073709551616) :
    Calls Tryd.prog 8 #[.int .u64 (m : Int)] w fun e w' => e = .returned (.bool true) ∧ Below w.heap.size w w' := by
  have HA := Lib.hid (and_low m hm)
  have HB := Lib.hid (mask_back (m % 4294967296) (mod_lt32 m))
  have ha : bits .and .u64 (m : Int) 4294967295 = ((m % 4294967296 : Nat) : Int) := HA.out
  have hq := mod_lt32 m
  clear hm
  generalize m % 4294967296 = q at *
  go_enter Tryd.func8, Tryd.ntmps8
  go_wp2_with fail
  refine (vmfmt q _ (by omega)).mono ?_
  rintro e w1 ⟨rfl, hb1⟩
  clear ha
  go_wp2_with fail
  refine (vmparse (maskS q) _ (maskS_size q)).mono ?_
  rintro e w2 ⟨rfl, hb2⟩
  have hb12 := below_then hb1 hb2
  unfold readV
  rw [HB.out]
  go_wp2_with fail
  refine (awake1 _).mono ?_
  rintro e w3 ⟨rfl, hb3⟩
  go_wp2_with fail
  go_ret
  exact ⟨rfl, below_then hb12 hb3⟩
end Go.Proofs.YtllomoplpoeggaaDoor

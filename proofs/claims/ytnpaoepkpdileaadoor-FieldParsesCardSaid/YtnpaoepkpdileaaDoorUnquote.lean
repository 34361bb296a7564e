/- Unquote of package value returns unqS and unqE. -/
import Derived.Test.YtnpaoepkpdileaaDoorUnhex
namespace Go.Proofs.YtnpaoepkpdileaaDoor
open Go.RowKit
theorem mid_list (s : ByteArray) : (s.extract 1 (s.size - 1)).data.toList = s.data.toList.tail.dropLast := by
  rw [ByteArray.data_extract, Array.toList_extract, List.extract_eq_take_drop, ← List.drop_one, List.dropLast_eq_take, List.length_drop]
  rfl
theorem tail_list (s : ByteArray) : (s.extract 1 s.size).data.toList = s.data.toList.tail := by
  rw [ByteArray.data_extract, Array.toList_extract, List.extract_eq_take_drop, ← List.drop_one]
  exact List.take_of_length_le (by rw [List.length_drop]; exact Nat.le_refl _)
theorem head_list (s : ByteArray) (h : 0 < s.size) : s.data.toList = s[0] :: s.data.toList.tail := by
  have : s.data.toList = s.data.toList.drop 0 := rfl
  rw [this, List.drop_eq_getElem_cons (by simpa using h)]; rfl
theorem last_list (s : ByteArray) (h : s.size - 1 < s.size) : s.data.toList.getLast? = some s[s.size - 1] := by
  rw [List.getLast?_eq_getElem?, List.getElem?_eq_getElem (by simpa using h)]; rfl
theorem byte_eq {c : UInt8} {n : Nat} (hn : n < 256) (h : ((c.toNat : Int) == (n : Int)) = true) : c = UInt8.ofNat n := by
  apply UInt8.toNat.inj
  rw [UInt8.toNat_ofNat']
  have : (c.toNat : Int) = (n : Int) := by simpa using h
  omega
theorem ext_eq (s : ByteArray) {l : List UInt8} (h : s.data.toList = l) : s = ⟨l.toArray⟩ := by
  apply ByteArray.ext; rw [← h]
def inQ (s : ByteArray) (h : 0 < s.size) (h1 : s.size - 1 < s.size) : Prop := ((s[0].toNat : Int) == 34) = true ∧ ((s[s.size - 1].toNat : Int) == 34) = true
theorem unqO_A (s : ByteArray) (hs : 2 ≤ s.size) (h0 : ((s[0].toNat : Int) == 34) = true) (h1 : ((s[s.size - 1].toNat : Int) == 34) = true) :
    unqO s.data.toList = if safeB (s.extract 1 (s.size - 1)).data.toList ∧ (s.extract 1 (s.size - 1)).size ≤ 640 then some (s.extract 1 (s.size - 1)).data.toList else none := by
  have e0 : s[0] = 34 := byte_eq (n := 34) (by omega) h0
  have e1 : s[s.size - 1] = 34 := byte_eq (n := 34) (by omega) h1
  have hl : s.data.toList.length = s.size := Array.length_toList
  have hm : (s.extract 1 (s.size - 1)).size = s.data.toList.tail.dropLast.length := by rw [← mid_list, Array.length_toList]; rfl
  rw [hm, mid_list]
  unfold unqO
  rw [if_pos ⟨by omega, by rw [head_list s (by omega), e0]; rfl, by rw [last_list s (by omega), e1]⟩]
theorem unqO_B (s : ByteArray) (hs : 1 ≤ s.size) (h0 : ((s[0].toNat : Int) == 120) = true) :
    unqO s.data.toList = match unhexL (s.extract 1 s.size).data.toList with | some t => if safeB t = false ∧ t.length ≤ 640 then some t else none | none => none := by
  have e0 : s[0] = 120 := byte_eq (n := 120) (by omega) h0
  rw [tail_list]
  unfold unqO
  rw [if_neg (by rw [head_list s (by omega), e0]; simp)]
  rw [head_list s (by omega), e0]
  rfl
theorem unqO_C0 (s : ByteArray) (hs : s.size = 0) : unqO s.data.toList = none := by
  have : s.data.toList = [] := List.eq_nil_of_length_eq_zero (Array.length_toList.trans hs)
  rw [this]; rfl
theorem unqO_C (s : ByteArray) (hs : 1 ≤ s.size) (h0 : ((s[0].toNat : Int) == 120) = false) (h : s.size < 2 ∨ ((s[0].toNat : Int) == 34) = false ∨ ((s[s.size - 1].toNat : Int) == 34) = false) :
    unqO s.data.toList = none := by
  have e0 : s[0] ≠ 120 := fun e => by rw [e] at h0; exact absurd h0 (by decide)
  have hl : s.data.toList.length = s.size := Array.length_toList
  unfold unqO
  rw [if_neg]
  · rw [head_list s (by omega)]
    simp [e0]
  · rintro ⟨k1, k2, k3⟩
    rcases h with h | h | h
    · omega
    · rw [head_list s (by omega)] at k2
      injection k2 with k2
      rw [k2] at h; exact absurd h (by decide)
    · rw [last_list s (by omega)] at k3
      injection k3 with k3
      rw [k3] at h; exact absurd h (by decide)
theorem extract_size (s : ByteArray) (h : s.size ≤ 1000000) (a b : Nat) : (s.extract a b).size ≤ 1000000 := by
  simp; omega
theorem mid_size (s : ByteArray) : (s.extract 1 (s.size - 1)).size = s.size - 1 - 1 := by
  simp
set_option maxHeartbeats 1000000 in
theorem vunq_A (s : ByteArray) (w : World) (hs : s.size ≤ 1000000) (h2 : 2 ≤ s.size) (h0 : ((s[0].toNat : Int) == 34) = true) (h1 : ((s[s.size - 1].toNat : Int) == 34) = true) :
    Calls Tryd.prog 71 #[.string s] w fun e w' => e = .returned (.tuple #[.string (unqS s), .int .i64 (unqE s)]) ∧ Below w.heap.size w w' := by
  have hU := Lib.hid (unqO_A s h2 h0 h1)
  have hz := extract_size s hs 1 (s.size - 1)
  have hm := mid_size s
  cases hsafe : safeB (s.extract 1 (s.size - 1)).data.toList
  · have HS := Lib.hid hsafe
    have H := Lib.hid (hU.out.trans (if_neg (by rw [hsafe]; simp)))
    clear hsafe hU hm
    go_enter Tryd.func71, Tryd.ntmps71
    go_wp2_with (go_at_call 74; refine (vsafe _ _ (by unfold maxLen; omega)).mono ?_; rintro e w' ⟨rfl, rfl⟩; rw [HS.out])
    go_ret2
    exact ⟨tup (unqS_none H.out).symm (unqE_none H.out).symm, Below.refl _ _⟩
  · have HS := Lib.hid hsafe
    by_cases hlen : s.size - 1 - 1 ≤ 640
    · have H := Lib.hid (hU.out.trans (if_pos ⟨hsafe, by omega⟩))
      have hl2 : decide (640 < s.size - 1 - 1) = false := by simp; omega
      have hl3 : decide (640 < ((s.size - 1 - 1 : Nat) : Int)) = false := by simp; omega
      have hl4 : ((s.size - 1 - 1 : Nat) : Int) ≤ 640 := by omega
      clear hsafe hU hm
      go_enter Tryd.func71, Tryd.ntmps71
      go_wp2_with (go_at_call 74; refine (vsafe _ _ (by unfold maxLen; omega)).mono ?_; rintro e w' ⟨rfl, rfl⟩; rw [HS.out])
      go_ret2
      exact ⟨tup (by rw [unqS_some H.out]) (unqE_some H.out).symm, Below.refl _ _⟩
    · have H := Lib.hid (hU.out.trans (if_neg (by omega)))
      have hl2 : decide (640 < s.size - 1 - 1) = true := by simp; omega
      have hl3 : decide (640 < ((s.size - 1 - 1 : Nat) : Int)) = true := by simp; omega
      have hl4 : 640 < ((s.size - 1 - 1 : Nat) : Int) := by omega
      clear hsafe hU hm
      go_enter Tryd.func71, Tryd.ntmps71
      go_wp2_with (go_at_call 74; refine (vsafe _ _ (by unfold maxLen; omega)).mono ?_; rintro e w' ⟨rfl, rfl⟩; rw [HS.out])
      go_ret2
      exact ⟨tup (unqS_none H.out).symm (unqE_none H.out).symm, Below.refl _ _⟩
theorem uh_none {s : ByteArray} (h : unhexL s.data.toList = none) : uhB s = false := by unfold uhB; rw [h]; rfl
theorem uh_some {s : ByteArray} {t : List UInt8} (h : unhexL s.data.toList = some t) : uhB s = true ∧ uhS s = ⟨t.toArray⟩ := by unfold uhB uhS; rw [h]; exact ⟨rfl, rfl⟩
set_option maxHeartbeats 1000000 in
theorem vunq_B (s : ByteArray) (w : World) (hs : s.size ≤ 1000000) (ht : Tab w) (h2 : 1 ≤ s.size) (h0 : ((s[0].toNat : Int) == 120) = true) (h34 : ((s[0].toNat : Int) == 34) = false) :
    Calls Tryd.prog 71 #[.string s] w fun e w' => e = .returned (.tuple #[.string (unqS s), .int .i64 (unqE s)]) ∧ Below w.heap.size w w' := by
  have hU := Lib.hid (unqO_B s h2 h0)
  have hz := extract_size s hs 1 s.size
  have h1 : 0 < s.size := by omega
  cases hx : unhexL (s.extract 1 s.size).data.toList with
  | none =>
    have HX := Lib.hid (uh_none hx)
    have H := Lib.hid (show unqO s.data.toList = none by rw [hU.out, hx])
    clear hx hU
    by_cases h3 : 2 ≤ s.size
    all_goals
      go_enter Tryd.func71, Tryd.ntmps71
      go_wp2_with (go_at_call 86; refine (vunhex _ _ hz ht).mono ?_; rintro e w' ⟨rfl, hb⟩; rw [HX.out])
      go_ret2
      exact ⟨tup (unqS_none H.out).symm (unqE_none H.out).symm, hb⟩
  | some t =>
    obtain ⟨g1, g2⟩ := uh_some hx
    have G1 := Lib.hid g1
    have G2 := Lib.hid g2
    have hlt : t.length ≤ 1000000 := by
      have e := hexL_unhexL _ _ hx
      have := hexL_length t
      rw [e, Array.length_toList] at this
      have hz' : (s.extract 1 s.size).data.size ≤ 1000000 := hz
      omega
    have hU' := Lib.hid (show unqO s.data.toList = if safeB t = false ∧ t.length ≤ 640 then some t else none by rw [hU.out, hx])
    clear hx hU g1 g2
    cases hsafe : safeB t
    · have HS := Lib.hid hsafe
      by_cases hlen : t.length ≤ 640
      · have H := Lib.hid (hU'.out.trans (if_pos ⟨hsafe, hlen⟩))
        have hl2 : decide (640 < t.length) = false := by simp; omega
        have hl3 : decide (640 < (t.length : Int)) = false := by simp; omega
        clear hsafe hU'
        by_cases h3 : 2 ≤ s.size
        all_goals
          go_enter Tryd.func71, Tryd.ntmps71
          go_wp2_with (first
            | (go_at_call 86; refine (vunhex _ _ hz ht).mono ?_; rintro e w' ⟨rfl, hb⟩; rw [G1.out, G2.out])
            | (go_at_call 74; refine (vsafe _ _ (by unfold maxLen; simp [ByteArray.size]; omega)).mono ?_; rintro e w' ⟨rfl, rfl⟩; rw [show safeB (⟨t.toArray⟩ : ByteArray).data.toList = false from HS.out]))
          go_ret2
          exact ⟨tup (unqS_some H.out).symm (unqE_some H.out).symm, hb⟩
      · have H := Lib.hid (hU'.out.trans (if_neg (by omega)))
        have hl2 : decide (640 < t.length) = true := by simp; omega
        have hl3 : decide (640 < (t.length : Int)) = true := by simp; omega
        clear hsafe hU'
        by_cases h3 : 2 ≤ s.size
        all_goals
          go_enter Tryd.func71, Tryd.ntmps71
          go_wp2_with (first
            | (go_at_call 86; refine (vunhex _ _ hz ht).mono ?_; rintro e w' ⟨rfl, hb⟩; rw [G1.out, G2.out])
            | (go_at_call 74; refine (vsafe _ _ (by unfold maxLen; simp [ByteArray.size]; omega)).mono ?_; rintro e w' ⟨rfl, rfl⟩; rw [show safeB (⟨t.toArray⟩ : ByteArray).data.toList = false from HS.out]))
          go_ret2
          exact ⟨tup (unqS_none H.out).symm (unqE_none H.out).symm, hb⟩
    · have HS := Lib.hid hsafe
      have H := Lib.hid (hU'.out.trans (if_neg (by rw [hsafe]; simp)))
      clear hsafe hU'
      by_cases h3 : 2 ≤ s.size
      all_goals
        go_enter Tryd.func71, Tryd.ntmps71
        go_wp2_with (first
          | (go_at_call 86; refine (vunhex _ _ hz ht).mono ?_; rintro e w' ⟨rfl, hb⟩; rw [G1.out, G2.out])
          | (go_at_call 74; refine (vsafe _ _ (by unfold maxLen; simp [ByteArray.size]; omega)).mono ?_; rintro e w' ⟨rfl, rfl⟩; rw [show safeB (⟨t.toArray⟩ : ByteArray).data.toList = true from HS.out]))
        go_ret2
        exact ⟨tup (unqS_none H.out).symm (unqE_none H.out).symm, hb⟩
set_option maxHeartbeats 1000000 in
theorem vunq_C0 (s : ByteArray) (w : World) (hs : s.size = 0) :
    Calls Tryd.prog 71 #[.string s] w fun e w' => e = .returned (.tuple #[.string (unqS s), .int .i64 (unqE s)]) ∧ Below w.heap.size w w' := by
  have H := Lib.hid (unqO_C0 s hs)
  have h1 : (s.size : Int) < 1 := by omega
  clear hs
  go_enter Tryd.func71, Tryd.ntmps71
  go_wp2
  go_ret2
  exact ⟨tup (unqS_none H.out).symm (unqE_none H.out).symm, Below.refl _ _⟩
set_option maxHeartbeats 1000000 in
theorem vunq_C (s : ByteArray) (w : World) (hs : s.size ≤ 1000000) (h2 : 1 ≤ s.size) (h0 : ((s[0].toNat : Int) == 120) = false) (h : s.size < 2 ∨ ((s[0].toNat : Int) == 34) = false ∨ ((s[s.size - 1].toNat : Int) == 34) = false) :
    Calls Tryd.prog 71 #[.string s] w fun e w' => e = .returned (.tuple #[.string (unqS s), .int .i64 (unqE s)]) ∧ Below w.heap.size w w' := by
  have H := Lib.hid (unqO_C s h2 h0 h)
  have h1 : 0 < s.size := by omega
  by_cases h3 : 2 ≤ s.size
  · have h4 : ((s[0].toNat : Int) == 34) = false ∨ (((s[0].toNat : Int) == 34) = true ∧ ((s[s.size - 1].toNat : Int) == 34) = false) := by
      rcases h with h | h | h
      · omega
      · exact .inl h
      · cases hh : ((s[0].toNat : Int) == 34)
        · exact .inl rfl
        · exact .inr ⟨rfl, h⟩
    clear h
    rcases h4 with h4 | ⟨h4, h5⟩
    all_goals
      go_enter Tryd.func71, Tryd.ntmps71
      go_wp2
      go_ret2
      exact ⟨tup (unqS_none H.out).symm (unqE_none H.out).symm, Below.refl _ _⟩
  · clear h
    go_enter Tryd.func71, Tryd.ntmps71
    go_wp2
    go_ret2
    exact ⟨tup (unqS_none H.out).symm (unqE_none H.out).symm, Below.refl _ _⟩
theorem vunquote (s : ByteArray) (w : World) (hs : s.size ≤ 1000000) (ht : Tab w) :
    Calls Tryd.prog 71 #[.string s] w fun e w' => e = .returned (.tuple #[.string (unqS s), .int .i64 (unqE s)]) ∧ Below w.heap.size w w' := by
  by_cases h : 1 ≤ s.size
  · cases h0 : ((s[0].toNat : Int) == 120)
    · by_cases hq : 2 ≤ s.size ∧ ((s[0].toNat : Int) == 34) = true ∧ ((s[s.size - 1].toNat : Int) == 34) = true
      · exact vunq_A s w hs hq.1 hq.2.1 hq.2.2
      · refine vunq_C s w hs h h0 ?_
        by_cases k1 : s.size < 2
        · exact .inl k1
        · cases k2 : ((s[0].toNat : Int) == 34)
          · exact .inr (.inl rfl)
          · cases k3 : ((s[s.size - 1].toNat : Int) == 34)
            · exact .inr (.inr rfl)
            · exact absurd ⟨by omega, k2, k3⟩ hq
    · have : (s[0].toNat : Int) = 120 := by simpa using h0
      exact vunq_B s w hs ht h h0 (by rw [this]; rfl)
  · exact vunq_C0 s w (by omega)
end Go.Proofs.YtnpaoepkpdileaaDoor

/- Unquote of the reference returns unqS and unqE. -/
import Derived.Test.YtnpaoepkpdileaaDoorUnquote
namespace Go.Proofs.YtnpaoepkpdileaaDoor
open Go.RowKit
theorem quoteS_list (t : ByteArray) (h : t.size ≤ 640) : (quoteS t).data.toList = quoteL t.data.toList := by
  unfold quoteS; rw [if_neg (by omega)]
theorem quoteE_zero {t : ByteArray} : quoteE t = 0 ↔ t.size ≤ 640 := by
  unfold quoteE; split <;> simp <;> omega
theorem quotes_iff (s t : ByteArray) : (quoteE t = 0 ∧ quoteS t = s) ↔ Quotes s.data.toList t.data.toList := by
  rw [quoteE_zero]
  unfold Quotes
  rw [Array.length_toList]
  constructor
  · rintro ⟨h1, h2⟩
    refine ⟨?_, h1⟩
    rw [← quoteS_list t h1, h2]
  · rintro ⟨h1, h2⟩
    refine ⟨h2, ?_⟩
    have := quoteS_list t h2
    rw [h1] at this
    apply ByteArray.ext; exact Array.toList_inj.1 this
/-- A text that begins with a quotation mark is the quoted form of its middle, or of nothing. -/
theorem quotes_A {s : ByteArray} {u : List UInt8} (hs : 2 ≤ s.size) (h0 : ((s[0].toNat : Int) == 34) = true) (h : Quotes s.data.toList u) : u = (s.extract 1 (s.size - 1)).data.toList := by
  have e0 : s[0] = 34 := byte_eq (n := 34) (by omega) h0
  have hh := head_list s (by omega)
  rw [mid_list]
  obtain ⟨h1, _⟩ := h
  unfold quoteL at h1
  rw [← h1]
  cases hu : safeB u <;> simp only [hu] at h1 ⊢
  · rw [← h1, e0] at hh
    simp at hh
  · simp
theorem quotes_B {s : ByteArray} {u : List UInt8} (hs : 1 ≤ s.size) (h0 : ((s[0].toNat : Int) == 34) = false) (h : Quotes s.data.toList u) :
    ((s[0].toNat : Int) == 120) = true ∧ 3 ≤ s.size ∧ s.size % 2 = 1 ∧ s.size ≤ 1281 ∧ unhexL s.data.toList.tail = some u := by
  have hh := head_list s (by omega)
  have hl : s.data.toList.length = s.size := Array.length_toList
  obtain ⟨h1, h2⟩ := h
  unfold quoteL at h1
  cases hu : safeB u <;> simp only [hu] at h1
  · have hne : u ≠ [] := fun e => by subst e; cases hu
    have hpos : 0 < u.length := List.length_pos_iff.2 hne
    rw [← h1] at hh hl ⊢
    simp only [Bool.false_eq_true, if_false, List.cons.injEq, List.tail_cons, List.length_cons, hexL_length] at hh hl ⊢
    refine ⟨by rw [← hh.1]; rfl, by omega, by omega, by omega, unhexL_hexL u⟩
  · rw [← h1] at hh
    simp only [if_true, List.cons.injEq] at hh
    rw [← hh.1] at h0; cases h0
abbrev RUnq (s : ByteArray) (w : World) : Prop := Calls Tryd.prog 47 #[.string s] w fun e w' => e = .returned (.tuple #[.string (unqS s), .int .i64 (unqE s)]) ∧ Below w.heap.size w w'
theorem unq_yes {s t : ByteArray} (h : quoteE t = 0 ∧ quoteS t = s) : unqO s.data.toList = some t.data.toList := unqO_of ((quotes_iff s t).1 h)
theorem quoteE_cases (t : ByteArray) : quoteE t = 0 ∨ quoteE t = 20 := by unfold quoteE; split <;> simp
theorem unqO_A_none {s : ByteArray} (hs : 2 ≤ s.size) (h0 : ((s[0].toNat : Int) == 34) = true) (h : ¬ (quoteE (s.extract 1 (s.size - 1)) = 0 ∧ quoteS (s.extract 1 (s.size - 1)) = s)) : unqO s.data.toList = none :=
  unqO_none fun u hu => h ((quotes_iff s _).2 (by rw [← quotes_A hs h0 hu]; exact hu))
set_option maxHeartbeats 1000000 in
theorem runq_A1 (s : ByteArray) (w : World) (hs : s.size ≤ 1000000) (h2 : 2 ≤ s.size) (h0 : ((s[0].toNat : Int) == 34) = true) (hok : quoteE (s.extract 1 (s.size - 1)) = 0 ∧ quoteS (s.extract 1 (s.size - 1)) = s) : RUnq s w := by
  have hz := extract_size s hs 1 (s.size - 1)
  have H := Lib.hid (unq_yes hok)
  obtain ⟨k1, k2⟩ := hok
  have K1 := Lib.hid k1
  have K2 := Lib.hid k2
  clear k1 k2
  go_enter Tryd.func47, Tryd.ntmps47
  go_wp2_with fail
  refine (rquote _ _ (by unfold maxLen; omega)).mono ?_
  rintro e w' ⟨rfl, hb⟩
  rw [K1.out, K2.out]
  go_wp2_with fail
  go_ret2
  exact ⟨tup (by rw [unqS_some H.out]) (unqE_some H.out).symm, hb⟩
set_option maxHeartbeats 1000000 in
theorem runq_A2 (s : ByteArray) (w : World) (hs : s.size ≤ 1000000) (h2 : 2 ≤ s.size) (h0 : ((s[0].toNat : Int) == 34) = true) (k1 : quoteE (s.extract 1 (s.size - 1)) = 0) (k2 : quoteS (s.extract 1 (s.size - 1)) ≠ s) : RUnq s w := by
  have hz := extract_size s hs 1 (s.size - 1)
  have H := Lib.hid (unqO_A_none h2 h0 (fun h => k2 h.2))
  have K1 := Lib.hid k1
  have k3 := str_ne k2
  clear k1 k2
  go_enter Tryd.func47, Tryd.ntmps47
  go_wp2_with fail
  refine (rquote _ _ (by unfold maxLen; omega)).mono ?_
  rintro e w' ⟨rfl, hb⟩
  rw [K1.out]
  go_wp2_with fail
  go_ret2
  exact ⟨tup (unqS_none H.out).symm (unqE_none H.out).symm, hb⟩
set_option maxHeartbeats 1000000 in
theorem runq_A3 (s : ByteArray) (w : World) (hs : s.size ≤ 1000000) (h2 : 2 ≤ s.size) (h0 : ((s[0].toNat : Int) == 34) = true) (k1 : quoteE (s.extract 1 (s.size - 1)) = 20) : RUnq s w := by
  have hz := extract_size s hs 1 (s.size - 1)
  have H := Lib.hid (unqO_A_none h2 h0 (fun h => by rw [k1] at h; exact absurd h.1 (by decide)))
  have K1 := Lib.hid k1
  clear k1
  go_enter Tryd.func47, Tryd.ntmps47
  go_wp2_with fail
  refine (rquote _ _ (by unfold maxLen; omega)).mono ?_
  rintro e w' ⟨rfl, hb⟩
  rw [K1.out]
  go_wp2_with fail
  go_ret2
  exact ⟨tup (unqS_none H.out).symm (unqE_none H.out).symm, hb⟩
theorem quote_empty : quoteE ⟨#[]⟩ = 0 ∧ quoteS ⟨#[]⟩ = ⟨#[34, 34]⟩ := by decide +kernel
set_option maxHeartbeats 1000000 in
theorem runq_R3 (s : ByteArray) (w : World) (hs : s.size ≤ 1000000) (hn : ⟨#[34, 34]⟩ ≠ s) (H : Hid (unqO s.data.toList = none))
    (h : s.size < 2 ∨ (∃ _ : 0 < s.size, ((s[0].toNat : Int) == 34) = false ∧ (s.size = 2 ∨ (3 ≤ s.size ∧ ((s[0].toNat : Int) == 120) = false) ∨ (3 ≤ s.size ∧ ((s[0].toNat : Int) == 120) = true ∧ (s.size % 2 = 0 ∨ (s.size % 2 = 1 ∧ 1281 < s.size)))))) : RUnq s w := by
  obtain ⟨q1, q2⟩ := quote_empty
  have Q1 := Lib.hid q1
  have Q2 := Lib.hid q2
  have k3 : (([34, 34] : List UInt8) == s.toList) = false := by
    have := str_ne hn
    rwa [show (⟨#[34, 34]⟩ : ByteArray).toList = [34, 34] from ByteArray.toList_mk [34, 34]] at this
  have hp : ∀ w, Calls Tryd.prog 52 #[.string ⟨#[]⟩] w fun e w' => e = .returned (.tuple #[.string ⟨#[34, 34]⟩, .int .i64 0]) ∧ Below w.heap.size w w' := fun w => by
    have := rquote ⟨#[]⟩ w (by unfold maxLen; decide)
    rw [q1, q2] at this; exact this
  have HP := Lib.hid hp
  clear q1 q2 hn hp
  rcases h with h | ⟨hp, h34, h | ⟨h3, h120⟩ | ⟨h3, h120, h | ⟨h, h5⟩⟩⟩
  · go_enter Tryd.func47, Tryd.ntmps47
    go_wp2_with fail
    refine (HP.out _).mono ?_
    rintro e w' ⟨rfl, hb⟩
    go_wp2_with fail
    go_ret2
    exact ⟨tup (unqS_none H.out).symm (unqE_none H.out).symm, hb⟩
  · have h2 : (s.size : Int) ≤ 2 := by omega
    have h2' : 2 ≤ (s.size : Int) := by omega
    clear h
    go_enter Tryd.func47, Tryd.ntmps47
    go_wp2_with fail
    refine (HP.out _).mono ?_
    rintro e w' ⟨rfl, hb⟩
    go_wp2_with fail
    go_ret2
    exact ⟨tup (unqS_none H.out).symm (unqE_none H.out).symm, hb⟩
  · have h2' : 2 ≤ (s.size : Int) := by omega
    go_enter Tryd.func47, Tryd.ntmps47
    go_wp2_with fail
    refine (HP.out _).mono ?_
    rintro e w' ⟨rfl, hb⟩
    go_wp2_with fail
    go_ret2
    exact ⟨tup (unqS_none H.out).symm (unqE_none H.out).symm, hb⟩
  · have h2' : 2 ≤ (s.size : Int) := by omega
    have h4 : ((s.size : Int) % 2 == 1) = false := by simp; omega
    clear h
    go_enter Tryd.func47, Tryd.ntmps47
    go_wp2_with fail
    refine (HP.out _).mono ?_
    rintro e w' ⟨rfl, hb⟩
    go_wp2_with fail
    go_ret2
    exact ⟨tup (unqS_none H.out).symm (unqE_none H.out).symm, hb⟩
  · have h2' : 2 ≤ (s.size : Int) := by omega
    have h4 : ((s.size : Int) % 2 == 1) = true := by simp; omega
    clear h
    go_enter Tryd.func47, Tryd.ntmps47
    go_wp2_with fail
    refine (HP.out _).mono ?_
    rintro e w' ⟨rfl, hb⟩
    go_wp2_with fail
    go_ret2
    exact ⟨tup (unqS_none H.out).symm (unqE_none H.out).symm, hb⟩
end Go.Proofs.YtnpaoepkpdileaaDoor

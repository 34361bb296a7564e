/- unhex of package value returns what unhexL reads. -/
import Derived.Test.YtnpaoepkpdileaaDoorUnqPlain
import Derived.Maps.AppendAt
namespace Go.Proofs.YtnpaoepkpdileaaDoor
open Go.RowKit
def uhS (s : ByteArray) : ByteArray := match unhexL s.data.toList with | some t => ⟨t.toArray⟩ | none => ⟨#[]⟩
def uhB (s : ByteArray) : Bool := (unhexL s.data.toList).isSome
/-- What is left to be read, behind what has been read. -/
def Left (s : ByteArray) (i : Nat) (acc : List UInt8) : Prop := unhexL s.data.toList = (unhexL (s.data.toList.drop i)).map (acc ++ ·)
theorem Left.start (s : ByteArray) : Left s 0 [] := by unfold Left; simp
theorem drop_two (s : ByteArray) (i : Nat) (h0 : i < s.size) (h : i + 1 < s.size) : s.data.toList.drop i = s[i] :: s[i + 1] :: s.data.toList.drop (i + 2) := by
  rw [List.drop_eq_getElem_cons (by simpa using h0), List.drop_eq_getElem_cons (by simpa using h)]; rfl
theorem Left.step {s : ByteArray} {i : Nat} {acc : List UInt8} (h : Left s i acc) (h0 : i < s.size) (hj : i + 1 < s.size) (ha : 0 ≤ unhexd s[i]) (hb : 0 ≤ unhexd s[i + 1]) : Left s (i + 2) (acc ++ [pairc s[i] s[i + 1]]) := by
  unfold Left at *
  rw [h, drop_two s i h0 hj, unhexL, if_neg (by omega)]
  cases unhexL (s.data.toList.drop (i + 2)) <;> simp
theorem Left.stop {s : ByteArray} {i : Nat} {acc : List UInt8} (h : Left s i acc) (h0 : i < s.size) (hj : i + 1 < s.size) (ha : unhexd s[i] < 0 ∨ unhexd s[i + 1] < 0) : unhexL s.data.toList = none := by
  unfold Left at h
  rw [h, drop_two s i h0 hj, unhexL, if_pos ha]; rfl
theorem Left.done {s : ByteArray} {i : Nat} {acc : List UInt8} (h : Left s i acc) (hj : s.size ≤ i) : unhexL s.data.toList = some acc := by
  unfold Left at h
  rw [h, List.drop_eq_nil_of_le (by simpa using hj)]; simp [unhexL]
theorem unhexL_odd : ∀ l : List UInt8, l.length % 2 = 1 → unhexL l = none
  | [], h => by simp at h
  | [_], _ => rfl
  | a :: b :: r, h => by
    rw [unhexL, unhexL_odd r (by simp at h; omega)]; split <;> rfl
theorem or16 : ∀ a b : Fin 16, bits .or .i64 ((a.val : Int) * 16) (b.val : Int) = 16 * (a.val : Int) + (b.val : Int) := by decide +kernel
theorem or_pairc (a b : UInt8) (ha : 0 ≤ unhexd a) (hb : 0 ≤ unhexd b) : bits .or .i64 (unhexd a * 16) (unhexd b) = ((pairc a b).toNat : Int) := by
  have h1 := unhexd_bounds a
  have h2 := unhexd_bounds b
  rw [pairc_val a b ha hb]
  have := or16 ⟨(unhexd a).toNat, by omega⟩ ⟨(unhexd b).toNat, by omega⟩
  simp only [Int.toNat_of_nonneg ha, Int.toNat_of_nonneg hb] at this
  exact this
theorem tupSB {a b : ByteArray} {m n : Bool} (h : a = b) (k : m = n) : Ending.returned (.tuple #[.string a, .bool m]) = .returned (.tuple #[.string b, .bool n]) := by rw [h, k]
set_option maxRecDepth 100000 in
set_option maxHeartbeats 1000000 in
theorem vunhex_even (s : ByteArray) (w : World) (hs : s.size ≤ 1000000) (he : s.size % 2 = 0) (ht : Tab w) :
    Calls Tryd.prog 86 #[.string s] w fun e w' => e = .returned (.tuple #[.string (uhS s), .bool (uhB s)]) ∧ Below w.heap.size w w' := by
  obtain ⟨i0, hi, hz0, hz1, hz2⟩ := info_parts Tryd.info5
  have h8 : (((s.size : Int) % 2) != 0) = false := by simp; omega
  have HE := Lib.hid he
  clear he
  go_enter Tryd.func86, Tryd.ntmps86
  go_wp2_with (at_make; refine wpList_make_own _ rfl _ _ 103 rfl w.heap.size 5 i0 _ 1 Tryd.underlying103 hi hz0 hz1 _ _ _ (s.size / 2) rfl rfl (by omega) (by rw [hz2]; omega) (by unfold maxLen; omega) (Nat.le_refl _) ?_; intro w1 hown1 hg1)
  have hb1 : Below w.heap.size w w1 := (Below.refl _ _).grown hg1 (Nat.le_refl _) (by simp)
  clear hg1
  go_loopw [4, 5] (fun v x wr => ∃ (i : Nat) (acc : List UInt8), i ≤ s.size ∧ x = .int .i64 (i : Int) ∧ acc.length ≤ 1000000 ∧ wr.ownsRow w.heap.size 5 1 v acc.length (acc.map bv) ∧ Below w.heap.size w wr ∧ Hid (Left s i acc ∧ acc.length * 2 = i)) (fun _ i _ => s.size - (intOf i).toNat)
  case atStart => exact ⟨0, [], by omega, rfl, by simp, by simpa using hown1, hb1, Left.start s, rfl⟩
  case round =>
    obtain ⟨i, acc, hj, rfl, hacc, hown, hb, hleft⟩ := hrel
    clear hown1 hb1
    have ht' := ht.below hb (Nat.le_refl _)
    by_cases hlt : i < s.size
    · have hlt1 : i + 1 < s.size := by have := HE.out; have := hleft.out.2; omega
      have a1 : (0 : Int) ≤ (i : Int) := by omega
      have a2 : (i : Int) < (s.size : Int) := by omega
      have a3 : (0 : Int) ≤ (i : Int) + 1 := by omega
      have a4 : (i : Int) + 1 < (s.size : Int) := by omega
      have b1 := unhexd_bounds s[i]
      have b2 := unhexd_bounds s[i + 1]
      have a5 : IntKind.i64.wrap ((i : Int) + 1) = (i : Int) + 1 := IntWalk.i64_in _ (by omega)
      have a6 : ((i : Int) + 1).toNat = i + 1 := by omega
      go_wp2_with fail
      go_quiet ((go_at_call 93; exact Calls.quiet_of_same (vdigit _ _ ht')))
      clear a5
      by_cases n1 : unhexd s[i] < 0
      · have H := Lib.hid (hleft.out.1.stop hlt hlt1 (.inl n1))
        go_wp2
        go_ret2
        exact ⟨tupSB (by rw [uhS, H.out]) (by rw [uhB, H.out]; rfl), below_drewN hb _⟩
      · by_cases n2 : unhexd s[i + 1] < 0
        · have H := Lib.hid (hleft.out.1.stop hlt hlt1 (.inr n2))
          go_wp2
          go_ret2
          exact ⟨tupSB (by rw [uhS, H.out]) (by rw [uhB, H.out]; rfl), below_drewN hb _⟩
        · have m1 : 0 ≤ unhexd s[i] := by omega
          have m2 : 0 ≤ unhexd s[i + 1] := by omega
          have m3 : unhexd s[i] < 16 := b1.2
          have m4 : unhexd s[i + 1] < 16 := b2.2
          have H := Lib.hid (hleft.out.1.step hlt hlt1 m1 m2)
          clear b1 b2 n1 n2
          have m5 := or_pairc _ _ m1 m2
          have m6 : (0 : Int) ≤ ((pairc s[i] s[i + 1]).toNat : Int) := by omega
          have m7 : ((pairc s[i] s[i + 1]).toNat : Int) < 256 := by have := (pairc s[i] s[i + 1]).toNat_lt; omega
          have hown' : (wr.drewN nq).ownsRow w.heap.size 5 1 u4 acc.length (acc.map bv) := hown
          go_wp2_with (at_builtin; refine wpList_append_own _ rfl _ _ 103 rfl w.heap.size 5 i0 _ 1 1 Tryd.underlying103 hi hz0 hz1 hz2 rfl (by omega) _ _ _ rfl (hown'.alloc _) ⟨wr.heap.size, 0, none⟩ 1 1 [bv (pairc s[i] s[i + 1])] rfl rfl (cell_one_new _ _ _) (by simp [Value.oneCell']) (by unfold maxLen; omega) (by omega) (by have := hb.size; simp; omega) ?_; intro v2 w2 hown2 hg2 _)
          have hb2 : Below w.heap.size w w2 := below_grown_own ((below_drewN hb nq).alloc hb.size _) hown (Nat.le_refl _) hg2 (by have := hb.size; simp; omega)
          clear hg2 m5
          go_roundw
          case rel => exact ⟨i + 2, acc ++ [pairc s[i] s[i + 1]], by omega, by go_num, by have := hleft.out.2; simp; omega, by simpa using hown2, hb2, H.out, by have := hleft.out.2; simp; omega⟩
          case measure => simp [intOf]; omega
    · have H := Lib.hid (hleft.out.1.done (by omega))
      have hcv := conv_own (P := Tryd.prog) (src := 103) (dst := 9) hown Tryd.underlying103 Tryd.underlying5 Tryd.underlying9
      rw [show (⟨acc.toArray⟩ : ByteArray) = uhS s by rw [uhS, H.out]] at hcv
      go_wp2
      go_ret2
      exact ⟨tupSB rfl (by rw [uhB, H.out]; rfl), hb⟩
theorem vunhex_odd (s : ByteArray) (w : World) (hs : s.size ≤ 1000000) (he : s.size % 2 = 1) :
    Calls Tryd.prog 86 #[.string s] w fun e w' => e = .returned (.tuple #[.string (uhS s), .bool (uhB s)]) ∧ Below w.heap.size w w' := by
  have h8 : (((s.size : Int) % 2) != 0) = true := by simp; omega
  have H := Lib.hid (unhexL_odd s.data.toList (by simpa using he))
  clear he
  go_enter Tryd.func86, Tryd.ntmps86
  go_wp2
  go_ret2
  exact ⟨tupSB (by rw [uhS, H.out]) (by rw [uhB, H.out]; rfl), Below.refl _ _⟩
theorem vunhex (s : ByteArray) (w : World) (hs : s.size ≤ 1000000) (ht : Tab w) :
    Calls Tryd.prog 86 #[.string s] w fun e w' => e = .returned (.tuple #[.string (uhS s), .bool (uhB s)]) ∧ Below w.heap.size w w' := by
  rcases Nat.mod_two_eq_zero_or_one s.size with h | h
  · exact vunhex_even s w hs h ht
  · exact vunhex_odd s w hs h
end Go.Proofs.YtnpaoepkpdileaaDoor

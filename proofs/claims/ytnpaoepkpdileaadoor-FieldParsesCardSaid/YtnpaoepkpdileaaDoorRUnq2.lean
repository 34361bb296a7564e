/- Unquote of the reference, where the text is written in hexadecimal digits; all cases together. -/
import Derived.Test.YtnpaoepkpdileaaDoorRUnq
namespace Go.Proofs.YtnpaoepkpdileaaDoor
open Go.RowKit
/-- What is left to be read behind the letter x, behind what has been read. -/
def Left2 (s : ByteArray) (i : Nat) (acc : List UInt8) : Prop := unhexL s.data.toList.tail = (unhexL (s.data.toList.drop i)).map (acc ++ ·)
theorem Left2.start (s : ByteArray) : Left2 s 1 [] := by unfold Left2; rw [List.drop_one]; simp
theorem Left2.step {s : ByteArray} {i : Nat} {acc : List UInt8} (h : Left2 s i acc) (h0 : i < s.size) (hj : i + 1 < s.size) (ha : 0 ≤ unhexd s[i]) (hb : 0 ≤ unhexd s[i + 1]) : Left2 s (i + 2) (acc ++ [pairc s[i] s[i + 1]]) := by
  unfold Left2 at *
  rw [h, drop_two s i h0 hj, unhexL, if_neg (by omega)]
  cases unhexL (s.data.toList.drop (i + 2)) <;> simp
theorem Left2.stop {s : ByteArray} {i : Nat} {acc : List UInt8} (h : Left2 s i acc) (h0 : i < s.size) (hj : i + 1 < s.size) (ha : unhexd s[i] < 0 ∨ unhexd s[i + 1] < 0) : unhexL s.data.toList.tail = none := by
  unfold Left2 at h
  rw [h, drop_two s i h0 hj, unhexL, if_pos ha]; rfl
theorem Left2.done {s : ByteArray} {i : Nat} {acc : List UInt8} (h : Left2 s i acc) (hj : s.size ≤ i) : unhexL s.data.toList.tail = some acc := by
  unfold Left2 at h
  rw [h, List.drop_eq_nil_of_le (by simpa using hj)]; simp [unhexL]
theorem app_one (T : ByteArray) (c : UInt8) : (T ++ ⟨#[c]⟩).data.toList = T.data.toList ++ [c] := by simp
set_option maxRecDepth 100000 in
set_option maxHeartbeats 2000000 in
theorem runq_R2 (s : ByteArray) (w : World) (h3 : 3 ≤ s.size) (h5 : s.size ≤ 1281) (h34 : ((s[0].toNat : Int) == 34) = false) (h120 : ((s[0].toNat : Int) == 120) = true) (ho : s.size % 2 = 1) : RUnq s w := by
  have h4 : ((s.size : Int) % 2 == 1) = true := by simp; omega
  have hp : 0 < s.size := by omega
  have d1 : decide (2 ≤ (s.size : Int)) = true := by simp; omega
  have d2 : decide (3 ≤ (s.size : Int)) = true := by simp; omega
  have d3 : decide ((s.size : Int) ≤ 1281) = true := by simp; omega
  have HO := Lib.hid ho
  have HN := Lib.hid (fun (u : List UInt8) (hu : Quotes s.data.toList u) => (quotes_B (by omega) h34 hu).2.2.2.2)
  clear ho
  go_enter Tryd.func47, Tryd.ntmps47
  go_wp2_with fail
  go_loopw [4, 5] (fun v x wr => ∃ (i : Nat) (T : ByteArray), i ≤ s.size ∧ x = .int .i64 (i : Int) ∧ v = .string T ∧ T.size ≤ 1000 ∧ Below w.heap.size w wr ∧ Hid (Left2 s i T.data.toList ∧ 1 + 2 * T.size = i)) (fun _ i _ => s.size - (intOf i).toNat)
  case atStart => exact ⟨1, ⟨#[]⟩, by omega, rfl, rfl, by decide, Below.refl _ _, Left2.start s, rfl⟩
  case round =>
    obtain ⟨i, T, hj, rfl, rfl, hT, hb, hleft⟩ := hrel
    by_cases hlt : i < s.size
    · have hlt1 : i + 1 < s.size := by have := HO.out; have := hleft.out.2; omega
      have a1 : (0 : Int) ≤ (i : Int) := by omega
      have a2 : (i : Int) < (s.size : Int) := by omega
      have a3 : (0 : Int) ≤ (i : Int) + 1 := by omega
      have a4 : (i : Int) + 1 < (s.size : Int) := by omega
      have b1 := unhexd_bounds s[i]
      have b2 := unhexd_bounds s[i + 1]
      have a5 : IntKind.i64.wrap ((i : Int) + 1) = (i : Int) + 1 := IntWalk.i64_in _ (by omega)
      have a6 : ((i : Int) + 1).toNat = i + 1 := by omega
      go_wp2_with fail
      go_quiet ((go_at_call 73; exact Calls.quiet_of_same (rdigit _ _)))
      clear a5
      by_cases n1 : unhexd s[i] < 0
      · have H := Lib.hid (unqO_none fun u hu => by have := HN.out u hu; rw [hleft.out.1.stop hlt hlt1 (.inl n1)] at this; cases this)
        go_wp2_with fail
        go_ret2
        exact ⟨tup (unqS_none H.out).symm (unqE_none H.out).symm, below_drewN hb _⟩
      · by_cases n2 : unhexd s[i + 1] < 0
        · have H := Lib.hid (unqO_none fun u hu => by have := HN.out u hu; rw [hleft.out.1.stop hlt hlt1 (.inr n2)] at this; cases this)
          go_wp2_with fail
          go_ret2
          exact ⟨tup (unqS_none H.out).symm (unqE_none H.out).symm, below_drewN hb _⟩
        · have m1 : 0 ≤ unhexd s[i] := by omega
          have m2 : 0 ≤ unhexd s[i + 1] := by omega
          have m3 : unhexd s[i] < 16 := b1.2
          have m4 : unhexd s[i + 1] < 16 := b2.2
          have H := Lib.hid (hleft.out.1.step hlt hlt1 m1 m2)
          clear b1 b2 n1 n2
          have m5 := (pairc_val _ _ m1 m2).symm
          have hcv : (convert 103 9 (.slice (some ⟨wr.heap.size, 0, none⟩) 1 1)).run Tryd.prog ((wr.drewN nq).alloc (.cells #[bv (pairc s[i] s[i + 1])] 5)) = .ok (.string ⟨#[pairc s[i] s[i + 1]]⟩) ((wr.drewN nq).alloc (.cells #[bv (pairc s[i] s[i + 1])] 5)) :=
            run_convert_bytes_back _ 103 9 5 ⟨wr.heap.size, 0, none⟩ 1 [pairc s[i] s[i + 1]] Tryd.underlying103 Tryd.underlying5 Tryd.underlying9 (fun j hj => by
              have : j = 0 := by simpa using hj
              subst this
              exact cell_one_new _ _ _ 0 _ rfl)
          go_wp2_with fail
          refine ⟨⟨i + 2, T ++ ⟨#[pairc s[i] s[i + 1]]⟩, by omega, by go_num, rfl, ?_, (below_drewN hb nq).alloc hb.size _, ?_, ?_⟩, by simp [intOf]; omega⟩
          · have := hleft.out.2; rw [ByteArray.size_append]; show T.size + 1 ≤ 1000; omega
          · rw [app_one]; exact H.out
          · have := hleft.out.2; rw [ByteArray.size_append]; show 1 + 2 * (T.size + 1) = i + 2; omega
    · have HD := Lib.hid (hleft.out.1.done (by omega))
      by_cases hok : quoteE T = 0 ∧ quoteS T = s
      · have H := Lib.hid (unq_yes hok)
        obtain ⟨k1, k2⟩ := hok
        have K1 := Lib.hid k1
        have K2 := Lib.hid k2
        clear k1 k2
        go_wp2_with fail
        refine (rquote _ _ (by unfold maxLen; omega)).mono ?_
        rintro e w' ⟨rfl, hb'⟩
        rw [K1.out, K2.out]
        go_wp2_with fail
        go_ret2
        exact ⟨tup (by rw [unqS_some H.out]) (unqE_some H.out).symm, hb.trans (hb'.mono hb.size)⟩
      · have H := Lib.hid (unqO_none fun u hu => by
          have := HN.out u hu
          rw [HD.out] at this
          injection this with this
          exact hok ((quotes_iff s T).2 (by rw [this]; exact hu)))
        have hE : quoteE T = 0 := quoteE_zero.2 (by have := hleft.out.2; omega)
        have k3 := str_ne (fun e => hok ⟨hE, e⟩)
        have K1 := Lib.hid hE
        clear hok hE
        go_wp2_with fail
        refine (rquote _ _ (by unfold maxLen; omega)).mono ?_
        rintro e w' ⟨rfl, hb'⟩
        rw [K1.out]
        go_wp2_with fail
        go_ret2
        exact ⟨tup (unqS_none H.out).symm (unqE_none H.out).symm, hb.trans (hb'.mono hb.size)⟩
theorem runquote (s : ByteArray) (w : World) (hs : s.size ≤ 1000000) : RUnq s w := by
  by_cases h0 : 1 ≤ s.size
  · cases h34 : ((s[0].toNat : Int) == 34)
    · have hne : (⟨#[34, 34]⟩ : ByteArray) ≠ s := fun e => by subst e; cases h34
      by_cases h : ((s[0].toNat : Int) == 120) = true ∧ 3 ≤ s.size ∧ s.size % 2 = 1 ∧ s.size ≤ 1281
      · exact runq_R2 s w h.2.1 h.2.2.2 h34 h.1 h.2.2.1
      · have H : unqO s.data.toList = none := unqO_none fun u hu => by
          have := quotes_B h0 h34 hu
          exact h ⟨this.1, this.2.1, this.2.2.1, this.2.2.2.1⟩
        refine runq_R3 s w hs hne H ?_
        by_cases k1 : s.size < 2
        · exact .inl k1
        · refine .inr ⟨h0, h34, ?_⟩
          by_cases k2 : s.size = 2
          · exact .inl k2
          · cases k3 : ((s[0].toNat : Int) == 120)
            · exact .inr (.inl ⟨by omega, rfl⟩)
            · refine .inr (.inr ⟨by omega, rfl, ?_⟩)
              by_cases k4 : s.size % 2 = 0
              · exact .inl k4
              · exact .inr ⟨by omega, by
                  rcases Nat.lt_or_ge 1281 s.size with k | k
                  · exact k
                  · exact absurd ⟨k3, by omega, by omega, k⟩ h⟩
    · by_cases k : 2 ≤ s.size
      · by_cases hok : quoteE (s.extract 1 (s.size - 1)) = 0 ∧ quoteS (s.extract 1 (s.size - 1)) = s
        · exact runq_A1 s w hs k h34 hok
        · rcases quoteE_cases (s.extract 1 (s.size - 1)) with k1 | k1
          · exact runq_A2 s w hs k h34 k1 (fun e => hok ⟨k1, e⟩)
          · exact runq_A3 s w hs k h34 k1
      · have hne : (⟨#[34, 34]⟩ : ByteArray) ≠ s := fun e => by subst e; exact k (by decide)
        refine runq_R3 s w hs hne (unqO_none fun u hu => ?_) (.inl (by omega))
        have h1 := hu.1
        have hl : s.data.toList.length = s.size := Array.length_toList
        rw [← h1] at hl
        unfold quoteL at hl
        cases hs : safeB u <;> simp only [hs] at hl
        · have hne : u ≠ [] := fun e => by subst e; cases hs
          have hpos : 0 < u.length := List.length_pos_iff.2 hne
          simp only [Bool.false_eq_true, if_false, List.length_cons, hexL_length] at hl
          omega
        · simp only [if_true, List.length_cons, List.length_append, List.length_nil] at hl
          omega
  · have hz : s.data.toList = [] := List.eq_nil_of_length_eq_zero (Array.length_toList.trans (by show s.size = 0; omega))
    have hne : (⟨#[34, 34]⟩ : ByteArray) ≠ s := fun e => by subst e; exact h0 (by decide)
    exact runq_R3 s w hs hne (by rw [hz]; rfl) (.inl (by omega))
end Go.Proofs.YtnpaoepkpdileaaDoor

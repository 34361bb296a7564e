/- The items of the statements of layer 1; the walks of the laws MaskBuilt and MaskShortest. -/
import Derived.Test.YtllomoplpoeggaaDoorMaskParses
import Derived.Test.YtllomoplpoeggaaDoorSrcPath
import Derived.Test.YtllomoplpoeggaaDoorDecimal
namespace Go.Proofs.YtllomoplpoeggaaDoor
open Go.RowKit
attribute [local irreducible] decS readM maskS Utf8.encode
set_option maxRecDepth 100000 in
set_option maxHeartbeats 2000000 in
theorem src_maskitem (w : World) (base g : Nat) (b : Int) (h : SrcOk w base g b) (hb : b ≤ 10000000000000) :
    Calls Tryd.prog 25 #[.pointer (some ⟨g, 0, none⟩)] w (SPost w base g (b + 3) 40) := by
  have H := Lib.hid h
  have HB := Lib.hid hb
  have hlt : g < w.heap.size := src_lt h
  clear h hb
  go_enter Tryd.func25, Tryd.ntmps25
  go_wp2_with fail
  refine (src_pick _ base g w.heap.size b 11 0 10000 _ 3 (0, 0) (H.out.alloc _) (by have := HB.out; omega) (heap_alloc_new w _) (by omega) rfl (by omega) (by omega) rfl).mono ?_
  rintro e w1 ⟨x, rfl, hx0, hx1, hs1, hg1⟩
  obtain ⟨n, rfl⟩ := Int.eq_ofNat_of_zero_le hx0
  have HS1 := Lib.hid hs1
  have hgo1 := (only_alloc (World.grownBy.refl w (some g)) _).trans hg1
  have hlt1 : g < w1.heap.size := src_lt hs1
  clear hs1 hg1
  go_wp2_with fail
  refine (decimal n _ (by omega)).mono ?_
  rintro e w' ⟨rfl, rfl⟩
  have hd := decS_size n (by omega)
  generalize decS n = T at *
  go_wp2_with fail
  refine (src_n _ base g (b + 1) 8 HS1.out (by have := HB.out; omega) (by omega) (by omega)).mono ?_
  rintro e w2 ⟨y, rfl, hy0, hy1, hs2, hg2⟩
  have HS2 := Lib.hid hs2
  have hgo2 := hgo1.trans hg2
  have hlt2 : g < w2.heap.size := src_lt hs2
  clear hs2 hg2 hgo1
  have hT : T.size ≤ 100 := by omega
  by_cases hy3 : y < 3
  · have hc : y = 0 ∨ y = 1 ∨ y = 2 := by omega
    clear hy3 hy0 hy1
    rcases hc with rfl | rfl | rfl
    all_goals
      go_wp2_with fail
      refine (src_pick _ base g w2.heap.size (b + 2) 6 0 32 _ 3 (0, 0) ((HS2.out.more (by omega)).alloc _) (by have := HB.out; omega) (heap_alloc_new w2 _) (by omega) rfl (by omega) (by omega) rfl).mono ?_
      rintro e w3 ⟨z, rfl, hz0, hz1, hs3, hg3⟩
      obtain ⟨m, rfl⟩ := Int.eq_ofNat_of_zero_le hz0
      have HS3 := Lib.hid hs3
      have hgo3 := (only_alloc hgo2 _).trans hg3
      clear hs3 hg3
      go_wp2_with fail
      refine (decimal m _ (by omega)).mono ?_
      rintro e w' ⟨rfl, rfl⟩
      have hd2 := decS_size m (by omega)
      generalize decS m = U at *
      go_wp2_with fail
      go_ret
      exact ⟨_, rfl, by simp only [ByteArray.size_append]; (show _ + 1 + _ ≤ _); omega, HS3.out.more (by omega), hgo3⟩
  · by_cases hy4 : y = 3
    · subst hy4
      clear hy3 hy0 hy1
      go_wp2_with fail
      refine (src_word _ base g w2.heap.size (b + 2) 8 40 _ 9 (0, 0) ((HS2.out.more (by omega)).alloc _) (by have := HB.out; omega) (heap_alloc_new w2 _) (by omega) rfl (by omega) (by omega) (by
        have e1 : (⟨#[48]⟩ : ByteArray).size = 1 := rfl
        have e2 : (⟨#[45]⟩ : ByteArray).size = 1 := rfl
        have e3 : (⟨#[45, 49, 45, 50]⟩ : ByteArray).size = 4 := rfl
        have e4 : (⟨#[32]⟩ : ByteArray).size = 1 := rfl
        have e5 : (⟨#[]⟩ : ByteArray).size = 0 := rfl
        have e6 : (⟨#[120]⟩ : ByteArray).size = 1 := rfl
        have e7 : (⟨#[97, 108, 108]⟩ : ByteArray).size = 3 := rfl
        simp [strsLe, ByteArray.size_append, e1, e2, e3, e4, e5, e6, e7]
        omega)).mono ?_
      rintro e w3 ⟨z, rfl, hzm, hs3, hg3⟩
      have HS3 := Lib.hid hs3
      have hgo3 := (only_alloc hgo2 _).trans hg3
      clear hs3 hg3
      go_wp2_with fail
      go_ret
      exact ⟨_, rfl, by omega, HS3.out.more (by omega), hgo3⟩
    · have b0 : (y == 0) = false := by simp; omega
      have b1 : (y == 1) = false := by simp; omega
      have b2 : (y == 2) = false := by simp; omega
      have b3 : (y == 3) = false := by simp; omega
      clear hy3 hy4
      go_wp2_with fail
      go_ret
      exact ⟨_, rfl, by omega, HS2.out.more (by omega), hgo2⟩
def BuiltPost (w : World) (base g : Nat) (e : Ending) (w' : World) : Prop := e = .returned (.bool true) ∧ Below w.heap.size w w'
theorem below_src {w w' : World} (hb : Below w.heap.size w w') {w2 : World} {g : Nat} (hg : w'.grownBy w2 (some g)) (h : w.heap.size ≤ g) : Below w.heap.size w w2 := below_only hb hg hb.size h
set_option maxRecDepth 100000 in
set_option maxHeartbeats 4000000 in
theorem maskBuilt_walk (w : World) (A : Option Addr) (n c : Nat) (hn : (n : Int) ≤ 9223372036854775807)
    (hl : ∀ k, k < n → ∃ (ad : Addr) (z : Int), A = some ad ∧ ad.block < w.heap.size ∧ w.cell? (ad.add k) = some (.int .i64 z) ∧ -9223372036854775808 ≤ z ∧ z ≤ 9223372036854775807) :
    Calls Tryd.prog 7 #[.slice A n c] w fun e w' => e = .returned (.bool true) ∧ Below w.heap.size w w' := by
  have HL := Lib.hid hl
  have HN := Lib.hid hn
  clear hl hn
  go_enter Tryd.func7, Tryd.ntmps7
  go_wp2_with fail
  refine (src_new _ A n c HN.out HL.out).mono ?_
  rintro e w1 ⟨rfl, hs1, hb1⟩
  have HS1 := Lib.hid hs1
  clear hs1
  go_wp2_with fail
  refine (src_maskitem _ w.heap.size w.heap.size 0 HS1.out (by omega)).mono ?_
  rintro e w2 ⟨t, rfl, ht, hs2, hg2⟩
  have HS2 := Lib.hid hs2
  have hb2 := below_src hb1 hg2 (Nat.le_refl _)
  clear hs2 hg2
  go_wp2_with fail
  refine (src_n _ w.heap.size w.heap.size (0 + 3) 5 HS2.out (by omega) (by omega) (by omega)).mono ?_
  rintro e w3 ⟨x, rfl, hx0, hx1, hs3, hg3⟩
  obtain ⟨k0, rfl⟩ := Int.eq_ofNat_of_zero_le hx0
  have HS3 := Lib.hid hs3
  have hb3 := below_src hb2 hg3 (Nat.le_refl _)
  clear hs3 hg3 hb2 hb1
  go_wp2_with fail
  go_loopw [4, 5] (fun v i wr => ∃ (T : ByteArray) (k : Nat), v = .string T ∧ i = .int .i64 (k : Int) ∧ k ≤ 4 ∧ T.size + 41 * k ≤ 204 ∧ Below w.heap.size w wr ∧ Hid (SrcOk wr w.heap.size w.heap.size (100 - 4 * k))) (fun _ i _ => (intOf i).toNat)
  case atStart => exact ⟨t, k0, rfl, rfl, by omega, by omega, hb3, HS3.out.more (by omega)⟩
  case round =>
    obtain ⟨T, k, rfl, rfl, hk4, hT, hb, hsr⟩ := hrel
    clear hb3 HS3 HS2 HS1 hx1 hx0 ht
    have hT4 : T.size ≤ 204 := by omega
    by_cases hk : 0 < k
    · have hk1 : (0 : Int) < (k : Int) := by omega
      go_wp2_with fail
      refine (src_maskitem _ w.heap.size w.heap.size _ hsr.out (by omega)).mono ?_
      rintro e w4 ⟨y, rfl, hy, hs4, hg4⟩
      have HS4 := Lib.hid hs4
      have hb4 := below_src hb hg4 (Nat.le_refl _)
      clear hs4 hg4
      go_wp2_with fail
      go_roundw
      case rel => exact ⟨_, k - 1, rfl, by go_num, by omega, by simp only [ByteArray.size_append]; (show _ + (1 + _) + _ ≤ _); omega, hb4, HS4.out.more (by omega)⟩
      case measure => simp [intOf]; omega
    · obtain rfl : k = 0 := by omega
      go_wp2_with fail
      refine (vmparse T _ (by omega)).mono ?_
      rintro e w4 ⟨rfl, hb4⟩
      unfold readV
      have hb14 := hb.trans (hb4.mono hb.size)
      go_wp2_with fail
      refine (rmparse T _ (by omega)).mono ?_
      rintro e w5 ⟨rfl, hb5⟩
      unfold readV
      have hb15 := hb14.trans (hb5.mono hb14.size)
      go_wp2_with fail
      refine (awake1 _).mono ?_
      rintro e w6 ⟨rfl, hb6⟩
      go_wp2_with fail
      go_ret
      exact ⟨rfl, hb15.trans (hb6.mono hb15.size)⟩
set_option maxRecDepth 100000 in
set_option maxHeartbeats 4000000 in
theorem maskShortest_walk (w : World) (A : Option Addr) (n c : Nat) (hn : (n : Int) ≤ 9223372036854775807)
    (hl : ∀ k, k < n → ∃ (ad : Addr) (z : Int), A = some ad ∧ ad.block < w.heap.size ∧ w.cell? (ad.add k) = some (.int .i64 z) ∧ -9223372036854775808 ≤ z ∧ z ≤ 9223372036854775807) :
    Calls Tryd.prog 9 #[.slice A n c] w fun e w' => e = .returned (.bool true) ∧ Below w.heap.size w w' := by
  have HL := Lib.hid hl
  have HN := Lib.hid hn
  clear hl hn
  go_enter Tryd.func9, Tryd.ntmps9
  go_wp2_with fail
  refine (src_new _ A n c HN.out HL.out).mono ?_
  rintro e w1 ⟨rfl, hs1, hb1⟩
  have HS1 := Lib.hid hs1
  clear hs1
  go_wp2_with fail
  refine (src_maskitem _ w.heap.size w.heap.size 0 HS1.out (by omega)).mono ?_
  rintro e w2 ⟨t, rfl, ht, hs2, hg2⟩
  have HS2 := Lib.hid hs2
  have hb2 := below_src hb1 hg2 (Nat.le_refl _)
  clear hs2 hg2
  go_wp2_with fail
  refine (src_n _ w.heap.size w.heap.size (0 + 3) 5 HS2.out (by omega) (by omega) (by omega)).mono ?_
  rintro e w3 ⟨x, rfl, hx0, hx1, hs3, hg3⟩
  obtain ⟨k0, rfl⟩ := Int.eq_ofNat_of_zero_le hx0
  have HS3 := Lib.hid hs3
  have hb3 := below_src hb2 hg3 (Nat.le_refl _)
  clear hs3 hg3 hb2 hb1
  go_wp2_with fail
  go_loopw [4, 5] (fun v i wr => ∃ (T : ByteArray) (k : Nat), v = .string T ∧ i = .int .i64 (k : Int) ∧ k ≤ 4 ∧ T.size + 41 * k ≤ 204 ∧ Below w.heap.size w wr ∧ Hid (SrcOk wr w.heap.size w.heap.size (100 - 4 * k))) (fun _ i _ => (intOf i).toNat)
  case atStart => exact ⟨t, k0, rfl, rfl, by omega, by omega, hb3, HS3.out.more (by omega)⟩
  case round =>
    obtain ⟨T, k, rfl, rfl, hk4, hT, hb, hsr⟩ := hrel
    clear hb3 HS3 HS2 HS1 hx1 hx0 ht
    have hT4 : T.size ≤ 204 := by omega
    by_cases hk : 0 < k
    · have hk1 : (0 : Int) < (k : Int) := by omega
      go_wp2_with fail
      refine (src_maskitem _ w.heap.size w.heap.size _ hsr.out (by omega)).mono ?_
      rintro e w4 ⟨y, rfl, hy, hs4, hg4⟩
      have HS4 := Lib.hid hs4
      have hb4 := below_src hb hg4 (Nat.le_refl _)
      clear hs4 hg4
      go_wp2_with fail
      go_roundw
      case rel => exact ⟨_, k - 1, rfl, by go_num, by omega, by simp only [ByteArray.size_append]; (show _ + (1 + _) + _ ≤ _); omega, hb4, HS4.out.more (by omega)⟩
      case measure => simp [intOf]; omega
    · obtain rfl : k = 0 := by omega
      have HSH := Lib.hid (mask_short T)
      have HM := Lib.hid (readM_lt T)
      go_wp2_with fail
      refine (vmparse T _ (by omega)).mono ?_
      rintro e w4 ⟨rfl, hb4⟩
      unfold readV
      have hb14 := hb.trans (hb4.mono hb.size)
      generalize (readM T).1 = m at *
      generalize (readM T).2 = er at *
      by_cases he : er = 0
      · have hsz := HSH.out he
        have hms := maskS_size m
        subst he
        go_wp2_with fail
        refine (vmfmt m _ (by have := HM.out; omega)).mono ?_
        rintro e w5 ⟨rfl, hb5⟩
        have hb15 := hb14.trans (hb5.mono hb14.size)
        go_wp2_with fail
        refine (awake1 _).mono ?_
        rintro e w6 ⟨rfl, hb6⟩
        go_wp2_with fail
        go_ret
        exact ⟨rfl, hb15.trans (hb6.mono hb15.size)⟩
      · have hne : (er != 0) = true := by simpa using he
        have hne2 : (er == 0) = false := by simpa using he
        clear he
        go_wp2_with fail
        refine (awake1 _).mono ?_
        rintro e w6 ⟨rfl, hb6⟩
        go_wp2_with fail
        go_ret
        exact ⟨rfl, hb14.trans (hb6.mono hb14.size)⟩
end Go.Proofs.YtllomoplpoeggaaDoor

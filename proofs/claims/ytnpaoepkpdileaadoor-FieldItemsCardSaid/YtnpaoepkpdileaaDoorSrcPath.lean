/- The source of numbers of package kauditmake: Text, Name, Path. -/
import Derived.Test.YtnpaoepkpdileaaDoorSrc2
namespace Go.Proofs.YtnpaoepkpdileaaDoor
open Go.RowKit
theorem SPost.more {w w' : World} {base g : Nat} {b b' : Int} {m m' : Nat} {e : Ending} (h : SPost w base g b m e w') (hb : b ≤ b') (hm : m ≤ m') : SPost w base g b' m' e w' := by
  obtain ⟨x, h1, h2, h3, h4⟩ := h
  exact ⟨x, h1, by omega, h3.more hb, h4⟩
set_option maxHeartbeats 1000000 in
theorem src_name (w : World) (base g : Nat) (b : Int) (h : SrcOk w base g b) (hb : b ≤ 100000000000000) :
    Calls Tryd.prog 63 #[.pointer (some ⟨g, 0, none⟩)] w (SPost w base g (b + 2) 13) := by
  have H := Lib.hid h
  have HB := Lib.hid hb
  clear h hb
  go_enter Tryd.func63, Tryd.ntmps63
  go_wp2_with fail
  refine (src_n _ base g b _ H.out (by have := HB.out; omega) (by omega) (by omega)).mono ?_
  rintro e w1 ⟨x, rfl, hx0, hx1, hs, hg⟩
  have HS := Lib.hid hs
  have hlt : g < w1.heap.size := src_lt hs
  clear hs
  by_cases hx : x = 19
  · have hxb : (x == 19) = true := by simpa using hx
    clear hx
    go_wp2_with fail
    refine (src_word _ base g w1.heap.size (b + 1) 8 13 _ 9 (0, 0) (HS.out.alloc _) (by have := HB.out; omega) (heap_alloc_new w1 _) (by omega) rfl (by omega) (by omega) rfl).mono ?_
    rintro e w2 ⟨y, rfl, hym, hs2, hg2⟩
    have HS2 := Lib.hid hs2
    clear hs2
    go_wp2_with fail
    go_ret
    exact ⟨_, rfl, hym, HS2.out.more (by omega), (only_alloc hg _).trans hg2⟩
  · have hxb : (x == 19) = false := by simpa using hx
    clear hx
    go_wp2_with fail
    refine (src_word _ base g w1.heap.size (b + 1) 6 13 _ 9 (0, 0) (HS.out.alloc _) (by have := HB.out; omega) (heap_alloc_new w1 _) (by omega) rfl (by omega) (by omega) rfl).mono ?_
    rintro e w2 ⟨y, rfl, hym, hs2, hg2⟩
    have HS2 := Lib.hid hs2
    clear hs2
    go_wp2_with fail
    go_ret
    exact ⟨_, rfl, hym, HS2.out.more (by omega), (only_alloc hg _).trans hg2⟩
set_option maxRecDepth 100000 in
set_option maxHeartbeats 4000000 in
theorem src_path (w : World) (base g : Nat) (b : Int) (h : SrcOk w base g b) (hb : b ≤ 10000000000000) :
    Calls Tryd.prog 61 #[.pointer (some ⟨g, 0, none⟩)] w (SPost w base g (b + 20) 60) := by
  have H := Lib.hid h
  have HB := Lib.hid hb
  clear h hb
  go_enter Tryd.func61, Tryd.ntmps61
  go_wp2_with fail
  refine (src_n _ base g b _ H.out (by have := HB.out; omega) (by omega) (by omega)).mono ?_
  rintro e w1 ⟨x, rfl, hx0, hx1, hs, hg⟩
  have HS := Lib.hid hs
  have hlt1 : g < w1.heap.size := src_lt hs
  clear hs
  go_wp2_with fail
  all_goals
    refine (src_pick _ base g w1.heap.size (b + 1) 7 0 4 _ 3 (0, 0) (HS.out.alloc _) (by have := HB.out; omega) (heap_alloc_new w1 _) (by omega) rfl (by omega) (by omega) rfl).mono ?_
    rintro e w2 ⟨n, rfl, hn0, hn1, hs2, hg2⟩
    obtain ⟨n0, rfl⟩ := Int.eq_ofNat_of_zero_le hn0
    have HS2 := Lib.hid hs2
    have hgf := (only_alloc hg (.cells #[.int .i64 1, .int .i64 1, .int .i64 2, .int .i64 2, .int .i64 3, .int .i64 0, .int .i64 4] 3)).trans hg2
    clear hs2 hg2 hg
    go_wp2_with fail
    go_loopw [3, 5] (fun v i wr => ∃ (T : ByteArray) (k : Nat), v = .string T ∧ i = .int .i64 (k : Int) ∧ k ≤ n0 ∧ T.size ≤ 1 + 14 * k ∧ w.grownBy wr (some g) ∧ Hid (SrcOk wr base g (b + 2 + 3 * k))) (fun _ i _ => n0 - (intOf i).toNat)
    case atStart => exact ⟨_, 0, rfl, rfl, Nat.zero_le _, by decide, hgf, HS2.out.more (by omega)⟩
    case round =>
      obtain ⟨T, k, rfl, rfl, hk, hT, hgr, hsr⟩ := hrel
      clear hgf HS2 HS
      have hT4 : T.size ≤ 100 := by omega
      by_cases hkn : k < n0
      · by_cases hk0 : 0 < k
        all_goals
          go_wp2_with fail
          refine (src_n _ base g (b + 2 + 3 * k) _ hsr.out (by have := HB.out; omega) (by omega) (by omega)).mono ?_
          rintro e w3 ⟨y, rfl, hy0, hy1, hs3, hg3⟩
          have HS3 := Lib.hid hs3
          have hg3' := hgr.trans hg3
          have hlt3 : g < w3.heap.size := src_lt hs3
          clear hs3 hg3
          by_cases hy : y = 7
          · have hyb : (y == 7) = true := by simpa using hy
            clear hy
            go_wp2_with fail
            refine (src_word _ base g w3.heap.size (b + 2 + 3 * k + 1) 4 13 _ 9 (0, 0) (HS3.out.alloc _) (by have := HB.out; omega) (heap_alloc_new w3 _) (by omega) rfl (by omega) (by omega) rfl).mono ?_
            rintro e w4 ⟨z, rfl, hzm, hs4, hg4⟩
            have HS4 := Lib.hid hs4
            have hg4' := (only_alloc hg3' (.cells #[.string ⟨#[46]⟩, .string ⟨#[46, 46]⟩, .string ⟨#[]⟩, .string ⟨#[97, 47, 47, 98]⟩] 9)).trans hg4
            clear hs4 hg4
            go_wp2_with fail
            go_roundw
            case rel => exact ⟨_, k + 1, rfl, by go_num, by omega, by simp only [ByteArray.size_append]; first | omega | (show _ + 1 + _ ≤ _; omega), hg4', HS4.out.more (by omega)⟩
            case measure => simp [intOf]; omega
          · have hyb : (y == 7) = false := by simpa using hy
            clear hy
            go_wp2_with fail
            refine (src_name _ base g (b + 2 + 3 * k + 1) HS3.out (by have := HB.out; omega)).mono ?_
            rintro e w4 ⟨z, rfl, hzm, hs4, hg4⟩
            have HS4 := Lib.hid hs4
            have hg4' := hg3'.trans hg4
            clear hs4 hg4
            go_wp2_with fail
            go_roundw
            case rel => exact ⟨_, k + 1, rfl, by go_num, by omega, by simp only [ByteArray.size_append]; first | omega | (show _ + 1 + _ ≤ _; omega), hg4', HS4.out.more (by omega)⟩
            case measure => simp [intOf]; omega
      · go_wp2_with fail
        refine (src_n _ base g (b + 2 + 3 * k) _ hsr.out (by have := HB.out; omega) (by omega) (by omega)).mono ?_
        rintro e w3 ⟨y, rfl, hy0, hy1, hs3, hg3⟩
        have HS3 := Lib.hid hs3
        have hg3' := hgr.trans hg3
        clear hs3 hg3
        by_cases hy : y = 7
        · have hyb : (y == 7) = true := by simpa using hy
          clear hy
          go_wp2_with fail
          go_ret
          exact ⟨_, rfl, by rw [ByteArray.size_append]; show _ + 1 ≤ _; omega, HS3.out.more (by omega), hg3'⟩
        · have hyb : (y == 7) = false := by simpa using hy
          clear hy
          go_wp2_with fail
          go_ret
          exact ⟨_, rfl, by omega, HS3.out.more (by omega), hg3'⟩
end Go.Proofs.YtnpaoepkpdileaaDoor

/- Format of the reference returns callS. -/
import Derived.Test.YtokkbboahajbhaaGreatDoorCallVFmt
import Derived.Test.YtokkbboahajbhaaGreatDoorAppS
namespace Go.Proofs.YtokkbboahajbhaaGreatDoor
open Go.RowKit
attribute [local irreducible] rowC cellsC rowI callE zeroB longB callS quoteS numS catW
set_option maxRecDepth 100000 in
set_option maxHeartbeats 4000000 in
theorem rformat10_bad (z : Int) (a : Nat → Int) (P : Option Addr) (cp : Nat) (A : Option Addr) (ca : Nat) (ps gs : List ByteArray) (w : World) (B : Nat) (hB : B ≤ w.heap.size) (hP : StrsAt w B P ps) (hA : StrsAt w B A gs) (hlp : ps.length ≤ 1000) (hlg : gs.length ≤ 1000) (hsp : ∀ s ∈ ps, s.size ≤ maxLen) (hsg : ∀ s ∈ gs, s.size ≤ maxLen) (he : callE z a ps gs ≠ 0) :
    Calls Tryz.prog 7 #[callV z a P ps.length cp A gs.length ca] w fun e w' => e = .returned (.tuple #[.string (callS z a ps gs), .int .i64 (callE z a ps gs)]) ∧ Below w.heap.size w w' := by
  have HF := Lib.hid (show callS z a ps gs = ⟨#[]⟩ by unfold callS; rw [if_neg he])
  have hb0 : (callE z a ps gs != 0) = true := by simpa using he
  have hal : Below w.heap.size w (w.alloc (callO z a P ps.length cp A gs.length ca)) := (Below.refl _ _).alloc (Nat.le_refl _) _
  have HV := Lib.hid (rcheck10 z a P cp A ca ps gs (w.alloc (callO z a P ps.length cp A gs.length ca)) B (by simp; omega) (hP.keep hal hB) (hA.keep hal hB) hlp hlg hsp hsg)
  clear he hP hA hsp hsg hal
  go_enter Tryz.func7, Tryz.ntmps7
  go_wp2_with fail
  refine HV.out.mono ?_
  rintro e w1 ⟨rfl, hb⟩
  go_wp2_with fail
  go_ret2
  exact ⟨tup HF.out.symm rfl, unbox' hb⟩
set_option maxRecDepth 100000 in
set_option maxHeartbeats 8000000 in
theorem rformat10_ok (z : Int) (a : Nat → Int) (P : Option Addr) (cp : Nat) (A : Option Addr) (ca : Nat) (ps gs : List ByteArray) (w : World) (B : Nat) (hB : B ≤ w.heap.size) (hP : StrsAt w B P ps) (hA : StrsAt w B A gs) (ha : ∀ j, j < 4 → -9223372036854775808 ≤ a j ∧ a j ≤ 9223372036854775807) (he : callE z a ps gs = 0) :
    Calls Tryz.prog 7 #[callV z a P ps.length cp A gs.length ca] w fun e w' => e = .returned (.tuple #[.string (callS z a ps gs), .int .i64 (callE z a ps gs)]) ∧ Below w.heap.size w w' := by
  obtain ⟨c1, c2, c3, c4, c5, c6⟩ := callE_zero he
  have hsm := rowC_small z.toNat
  rw [← rowI_toNat c1] at hsm
  have HF := Lib.hid (show callS z a ps gs = catW (rowI z).name (numsW (rowI z).nums a ++ (ps ++ gs).map quoteS) by unfold callS; rw [if_pos he])
  have hal : Below w.heap.size w (w.alloc (callO z a P ps.length cp A gs.length ca)) := (Below.refl _ _).alloc (Nat.le_refl _) _
  have HV := Lib.hid (rcheck10 z a P cp A ca ps gs (w.alloc (callO z a P ps.length cp A gs.length ca)) B (by simp; omega) (hP.keep hal hB) (hA.keep hal hB) (by omega) (by omega) (fun s hs => by have := c5 s hs; unfold maxLen; omega) (fun s hs => by have := c6 s hs; unfold maxLen; omega))
  rw [he] at HV
  have HG := Lib.hid (rget z)
  have HE0 := Lib.hid he
  have HP := Lib.hid hP
  have HA := Lib.hid hA
  have HI := Lib.hid ha
  have HS5 := Lib.hid (show ∀ s ∈ ps ++ gs, s.size ≤ 128 from fun s hs => by
    rcases List.mem_append.1 hs with h | h
    · exact c5 s h
    · have := c6 s h; omega)
  clear he hP hA ha c1 c2 c5 c6 hal
  generalize rowI z = r at *
  obtain ⟨nm, m, p, l, u⟩ := r
  obtain ⟨s1, s2, s3, s4, s5⟩ := hsm
  simp only at c3 c4 s1 s2 s3 s4 s5
  have hlp : ps.length ≤ 2 := by omega
  have hlg : gs.length ≤ 4 := by omega
  clear c3 c4
  go_enter Tryz.func7, Tryz.ntmps7
  go_wp2_with fail
  refine HV.out.mono ?_
  rintro e w1 ⟨rfl, hb1⟩
  have HB1 := boxed hb1
  have g1 := (Blk.new w _ _).keep HB1 (by omega)
  have q0 := g1.cell 0
  have hsz1 := HB1.size
  simp at hsz1
  clear hb1 g1
  go_wp2_with fail
  refine (HG.out _).mono ?_
  rintro e w2 ⟨rfl, hb2⟩
  unfold CRow.val
  have HB2 := box_then HB1 hb2
  clear q0 hb2 HB1
  have hsz2 := HB2.size
  simp at hsz2
  go_wp2_with fail
  have hb := HB2.alloc (by omega) (.cells #[.string nm, .int .i64 (m : Int), .int .i64 (p : Int), .int .i64 (l : Int), .int .i64 (u : Int)] 49)
  have HRW := Blk.new w2 #[.string nm, .int .i64 (m : Int), .int .i64 (p : Int), .int .i64 (l : Int), .int .i64 (u : Int)] 49
  clear HB2
  generalize hwx : w2.alloc (.cells #[.string nm, .int .i64 (m : Int), .int .i64 (p : Int), .int .i64 (l : Int), .int .i64 (u : Int)] 49) = wx at *
  have hsx : w2.heap.size < wx.heap.size := by rw [← hwx]; simp
  clear hwx
  generalize w2.heap.size = g1 at *
  have g2 := (Blk.new w _ _).keep hb (by omega)
  have r1 := HRW.cell 1
  go_loop [6, 7] (fun v i => ∃ k : Nat, k ≤ m ∧ i = .int .i64 k ∧ v = .string (catW nm (numsW k a))) (fun _ i => m - (intOf i).toNat)
  case atStart => exact ⟨0, Nat.zero_le _, rfl, by unfold catW numsW; rfl⟩
  case round =>
    obtain ⟨k, hk, rfl, rfl⟩ := hrel
    by_cases hlt : k < m
    · have hcell := a_cell g2 k (by omega)
      have hr := HI.out k (by omega)
      have HK := Lib.hid (show catW nm (numsW (k + 1) a) = catW nm (numsW k a) ++ (⟨#[32]⟩ ++ numS (a k)) by rw [numsW_succ, catW_snoc])
      have hz1 := numS_len _ hr.1 hr.2
      have hz2 : (catW nm (numsW k a)).size ≤ 1000 := by
        have := catW_size 20 (numsW k a) nm (numsW_size fun j hj => HI.out j (by omega))
        rw [numsW_len] at this; omega
      generalize a k = x at *
      generalize catW nm (numsW k a) = t at *
      go_wp2_with fail
      refine (rnumber x hr.1 hr.2 _).mono ?_
      rintro e w4 ⟨rfl, rfl⟩
      clear hr hcell
      go_wp2_with fail
      go_round
      case rel => exact ⟨k + 1, by omega, by go_num, by rw [HK.out]⟩
      case measure => simp [intOf]; omega
    · obtain rfl : m = k := by omega
      have hz2 : (catW nm (numsW m a)).size ≤ 1000 := by
        have := catW_size 20 (numsW m a) nm (numsW_size fun j hj => HI.out j (by omega))
        rw [numsW_len] at this; omega
      have q5 := g2.cell 5
      have q6 := g2.cell 6
      go_wp2_with fail
      have HP1 := Lib.hid (HP.out.keep (unbox hb) hB)
      have HA1 := Lib.hid (HA.out.keep (unbox hb) hB)
      have hBx : B ≤ wx.heap.size := by omega
      have q5' : wx.cell? ⟨w.heap.size, 5, none⟩ = some (.slice P ps.length cp) := q5
      have q6' : wx.cell? ⟨w.heap.size, 6, none⟩ = some (.slice A gs.length ca) := q6
      clear q5 q6 r1 g2 HRW
      go_region_held3 (fun w' => w'.cell? ⟨w.heap.size, 5, none⟩ = some (.slice P ps.length cp) ∧ w'.cell? ⟨w.heap.size, 6, none⟩ = some (.slice A gs.length ca)) (first | exact ⟨q5', q6'⟩ | (go_split_ands; refine ⟨?_, ?_⟩ <;> (refine cell_grown (by assumption) (by assumption) ?_; intro r hr; first | (cases hr; done) | (have := ho1.ge r hr; show r ≠ w.heap.size; omega))))
        (first
          | (refine step_append_strs (by rfl) (.const (.slice none 0 0)) (.tmp 37) (by rfl) wx.heap.size _ [] (by rfl) (OwnS.nil _ _) B P ps.length cp ps (by rfl) rfl (by exact HP1.out) (by simp; omega) (by simp) ?_; intro v1 w1 ho1 hg1 hat1)
          | (refine step_append_strs (by rfl) (.tmp 38) (.tmp 40) (by rfl) wx.heap.size v1 ([] ++ ps) (by rfl) ho1 B A gs.length ca gs (by rfl) rfl (by exact StrsAt.grown (w := wx.drew) HA1.out hg1 hBx (fun r hr => by cases hr)) (by simp; omega) (by have := hg1.size; simp at this; omega) ?_; intro v2 w2 ho2 hg2 hat2))
      have hs1 : wx.heap.size ≤ w1.heap.size := hg1.size
      have hb1 : Below (w.heap.size + 1) (w.alloc (callO z a P ps.length cp A gs.length ca)) w1 := (hb.drew).grown hg1 (by show _ ≤ wx.heap.size; omega) (fun k hk => by cases hk)
      have hb2 := hb1.grown hg2 (by omega) (fun k hk => by have := ho1.ge k hk; omega)
      obtain ⟨A2, c2, rfl, hS2⟩ := ho2.strs
      clear ho1 ho2 hg1 hg2 hat1 hat2 q5' q6' HP1 HA1 HP HA hb hb1
      have HB2 := Lib.hid hb2
      have HS2 := Lib.hid hS2
      clear hb2 hS2
      simp only [List.nil_append] at HS2
      rw [List.nil_append]
      have hL6 : (ps ++ gs).length ≤ 6 := by simp; omega
      generalize ps ++ gs = L at *
      go_wp2_with fail
      go_loopw [6, 9] (fun v i wr => ∃ k : Nat, k ≤ L.length ∧ i = .int .i64 k ∧ v = .string (catW nm (numsW m a ++ (L.take k).map quoteS)) ∧ Below w2.heap.size w2 wr) (fun _ i _ => L.length - (intOf i).toNat)
      case atStart => exact ⟨0, Nat.zero_le _, rfl, by simp, Below.refl _ _⟩
      case round =>
        obtain ⟨k, hk, rfl, rfl, hb⟩ := hrel
        by_cases hlt : k < L.length
        · obtain ⟨ad, e, hadb, hc⟩ := HS2.out.keep hb (Nat.le_refl _) k hlt
          cases e
          have hz := HS5.out _ (List.getElem_mem hlt)
          have HK := Lib.hid (show catW nm (numsW m a ++ (L.take (k + 1)).map quoteS) = catW nm (numsW m a ++ (L.take k).map quoteS) ++ (⟨#[32]⟩ ++ quoteS L[k]) by
            rw [take_map_snoc L k hlt, ← List.append_assoc, catW_snoc])
          have hzt : (catW nm (numsW m a ++ (L.take k).map quoteS)).size ≤ 100000 := by
            have := catW_size 300 (numsW m a ++ (L.take k).map quoteS) nm (fun s hs => by
              rcases List.mem_append.1 hs with h | h
              · have := numsW_size (fun j hj => HI.out j (by omega)) s h; omega
              · obtain ⟨y, hy, rfl⟩ := List.mem_map.1 h
                have h1 := HS5.out y (List.mem_of_mem_take hy)
                have := quoteS_le y (by omega); omega)
            have hl : (numsW m a ++ (L.take k).map quoteS).length ≤ 10 := by simp [numsW_len]; omega
            have h3 : (numsW m a ++ (L.take k).map quoteS).length * (300 + 1) ≤ 10 * (300 + 1) := Nat.mul_le_mul_right _ hl
            omega
          have hzq := quoteS_le L[k] (by omega)
          generalize catW nm (numsW m a ++ (L.take k).map quoteS) = t at *
          generalize L[k] = s at *
          go_wp2_with fail
          refine (rquote _ _ (by unfold maxLen; omega)).mono ?_
          rintro e w4 ⟨rfl, hb4⟩
          have HB4 := Lib.hid (below_then hb hb4)
          clear hb hb4 hc
          go_wp2_with fail
          go_roundw
          case rel => exact ⟨k + 1, by omega, by go_num, by rw [HK.out], HB4.out⟩
          case measure => simp [intOf]; omega
        · obtain rfl : k = L.length := by omega
          rw [List.take_length]
          go_wp2_with fail
          go_ret2
          exact ⟨tup HF.out.symm HE0.out.symm, below_then (unbox HB2.out) hb⟩
theorem rformat10 (z : Int) (a : Nat → Int) (P : Option Addr) (cp : Nat) (A : Option Addr) (ca : Nat) (ps gs : List ByteArray) (w : World) (B : Nat) (hB : B ≤ w.heap.size) (hP : StrsAt w B P ps) (hA : StrsAt w B A gs) (hlp : ps.length ≤ 1000) (hlg : gs.length ≤ 1000) (hsp : ∀ s ∈ ps, s.size ≤ maxLen) (hsg : ∀ s ∈ gs, s.size ≤ maxLen) (ha : ∀ j, j < 4 → -9223372036854775808 ≤ a j ∧ a j ≤ 9223372036854775807) :
    Calls Tryz.prog 7 #[callV z a P ps.length cp A gs.length ca] w fun e w' => e = .returned (.tuple #[.string (callS z a ps gs), .int .i64 (callE z a ps gs)]) ∧ Below w.heap.size w w' := by
  by_cases he : callE z a ps gs = 0
  · exact rformat10_ok z a P cp A ca ps gs w B hB hP hA ha he
  · exact rformat10_bad z a P cp A ca ps gs w B hB hP hA hlp hlg hsp hsg he
end Go.Proofs.YtokkbboahajbhaaGreatDoor

/- Texts of one proof, laid together. -/
import Derived.Test.YtokkbboahajbhaaDoorTCallParses
/- The walk of the law CallBack. -/
namespace Go.Proofs.YtokkbboahajbhaaDoor
open Go.RowKit
theorem callS_size {z : Int} {a : Nat → Int} {ps gs : List ByteArray} (h : callE z a ps gs = 0) (hi : I64A a) : (callS z a ps gs).size ≤ 100000 := by
  obtain ⟨c1, c2, c3, c4, c5, c6⟩ := callE_zero h
  have hsm := rowI_small z
  unfold callS
  rw [if_pos h]
  have := catW_size 300 (numsW (rowI z).nums a ++ (ps ++ gs).map quoteS) (rowI z).name (fun s hs => by
    rcases List.mem_append.1 hs with h | h
    · have := numsW_size (m := (rowI z).nums) (a := a) (fun j hj => hi j (by omega)) s h; omega
    · obtain ⟨y, hy, rfl⟩ := List.mem_map.1 h
      have h1 : y.size ≤ 128 := by
        rcases List.mem_append.1 hy with h | h
        · exact c5 y h
        · have := c6 y h; omega
      have := quoteS_le y (by omega); omega)
  have hl : (numsW (rowI z).nums a ++ (ps ++ gs).map quoteS).length ≤ 10 := by simp [numsW_len]; omega
  have h3 : (numsW (rowI z).nums a ++ (ps ++ gs).map quoteS).length * (300 + 1) ≤ 10 * (300 + 1) := Nat.mul_le_mul_right _ hl
  omega
/-- What is read back of the text of a call. -/
theorem CIs.back {z z' : Int} {a a' : Nat → Int} {ps gs ps' gs' : List ByteArray} {er : Int} (h : callE z a ps gs = 0) (hi : I64A a) (k : CIs (callS z a ps gs) z' a' ps' gs' er) : er = 0 ∧ EqC z z' a a' ps ps' gs gs' := by
  obtain ⟨h1, h2⟩ := CIs.unique (.inl ⟨rfl, h, rfl, hi⟩) k
  exact ⟨h1.symm, h2⟩
attribute [local irreducible] rowI rowC numC numS unqS unqE callS callE rdN
set_option maxRecDepth 100000 in
set_option maxHeartbeats 8000000 in
theorem callBack_walk (w : World) (A : Option Addr) (n c : Nat) (hn : (n : Int) ≤ 9223372036854775807)
    (hl : ∀ k, k < n → ∃ (ad : Addr) (z : Int), A = some ad ∧ ad.block < w.heap.size ∧ w.cell? (ad.add k) = some (.int .i64 z) ∧ -9223372036854775808 ≤ z ∧ z ≤ 9223372036854775807) (he : Env w) (hc : Calls10 w) :
    Calls Tryd.prog 7 #[.slice A n c] w fun e w' => e = .returned (.bool true) ∧ Below w.heap.size w w' := by
  have HL := Lib.hid hl
  have HN := Lib.hid hn
  have HE := Lib.hid (fun (W : World) (h : Below w.heap.size w W) => he.below h)
  have HC := Lib.hid (fun (W : World) (h : Below w.heap.size w W) => hc.below h (Nat.le_refl _))
  have HAW := Lib.hid (fun (W : World) (h : Below w.heap.size w W) => awake10 W (HC.out _ h) (HE.out _ h).tab (HE.out _ h).pow)
  clear hl hn he hc
  go_enter Tryd.func7, Tryd.ntmps7
  go_wp2_with fail
  refine (src_new w A n c HN.out HL.out).mono ?_
  rintro e w1 ⟨rfl, hs1, hb1⟩
  have HS1 := Lib.hid hs1
  have hlt1 : w.heap.size < w1.heap.size := src_lt hs1
  clear hs1 HL HN
  go_wp2_with fail
  refine (src_call _ w.heap.size w.heap.size 0 HS1.out (by omega)).mono ?_
  rintro e w2 ⟨z, a, vp, va, ps, gs, rfl, hz, ha, l1, l2, z1, z2, o1, o2, hs2, hg2⟩
  have hb2 : Below w.heap.size w w2 := below_only hb1 hg2 (by omega) (Nat.le_refl _)
  obtain ⟨P, cp, e1, hP⟩ := o1.strs
  obtain ⟨A', ca, e2, hA⟩ := o2.strs
  subst e1 e2
  go_wp2_with fail
  have hi : I64A a := fun j hj => by have := ha j hj; unfold I64; omega
  have hal2 : Below w2.heap.size w2 (w2.alloc (.cells (cellsCall z a (.slice P ps.length cp) (.slice A' gs.length ca)) 25)) := (Below.refl _ _).alloc (Nat.le_refl _) _
  have C3 := Blk.new w2 (cellsCall z a (.slice P ps.length cp) (.slice A' gs.length ca)) 25
  have b3 := below_then hb2 hal2
  have hP3 := (hP.keep hal2 (Nat.le_refl _)).more hal2.size
  have hA3 := (hA.keep hal2 (Nat.le_refl _)).more hal2.size
  have HP3 := Lib.hid hP3
  have HA3 := Lib.hid hA3
  clear hs2 hg2 hb2 HS1 hb1 o1 o2 hP hA hal2
  generalize w2.alloc (.cells (cellsCall z a (.slice P ps.length cp) (.slice A' gs.length ca)) 25) = w3 at *
  have HF := Lib.hid (vformat10 z a P cp A' ca ps gs w3 w3.heap.size (Nat.le_refl _) hP3 hA3 (by omega) (by omega) (fun s hs => by have := z1 s hs; unfold maxLen; omega) (fun s hs => by have := z2 s hs; unfold maxLen; omega) hi (HC.out _ b3) (HE.out _ b3).tab (HE.out _ b3).pow)
  have HCK := Lib.hid (fun (W : World) (h : Below w3.heap.size w3 W) => vcheck10 z a P cp A' ca ps gs W w3.heap.size h.size (HP3.out.keep h (Nat.le_refl _)) (HA3.out.keep h (Nat.le_refl _)) (by omega) (by omega) (fun s hs => by have := z1 s hs; unfold maxLen; omega) (fun s hs => by have := z2 s hs; unfold maxLen; omega) (HC.out _ (below_then b3 h)))
  have HI := Lib.hid hi
  clear hi ha z1 z2 hP3 hA3 hz
  refine HF.out.mono ?_
  rintro e w4 ⟨rfl, hb4⟩
  have C4 := C3.below hb4
  have b4 := below_then b3 hb4
  clear HF C3
  have q0 := C4.cell 0
  have q1 := C4.cell 1
  have q2 := C4.cell 2
  have q3 := C4.cell 3
  have q4 := C4.cell 4
  have q5 := C4.cell 5
  have q6 := C4.cell 6
  by_cases h0 : callE z a ps gs = 0
  · have hts := callS_size h0 HI.out
    have HBK := Lib.hid (fun (z' : Int) (a' : Nat → Int) (ps' gs' : List ByteArray) (er : Int) (k : CIs (callS z a ps gs) z' a' ps' gs' er) => CIs.back h0 HI.out k)
    have HLE := Lib.hid (callE_sizes h0)
    rw [h0]
    clear h0
    generalize callS z a ps gs = t at *
    go_wp2_with fail
    refine (vparse10 t hts _ (HE.out _ b4) (HC.out _ b4)).mono ?_
    rintro e w5 ⟨z2, a2, vp2, va2, ps2, gs2, er, rfl, hC, hop, hog, hb5⟩
    obtain ⟨e5, heq⟩ := HBK.out _ _ _ _ _ hC
    subst e5
    have HEQ := Lib.hid heq
    have l4 := hC.lens
    obtain ⟨P2, cp2, e1, hP2⟩ := hop.strs
    obtain ⟨A2, ca2, e2, hA2⟩ := hog.strs
    subst e1 e2
    have hal5 : Below w5.heap.size w5 (w5.alloc (.cells (cellsCall z2 a2 (.slice P2 ps2.length cp2) (.slice A2 gs2.length ca2)) 25)) := (Below.refl _ _).alloc (Nat.le_refl _) _
    have k6 := below_then (below_then hb4 hb5) hal5
    have b6 := below_then b3 k6
    have C6 := (C4.below hb5).below hal5
    have D6 := Blk.new w5 (cellsCall z2 a2 (.slice P2 ps2.length cp2) (.slice A2 gs2.length ca2)) 25
    have HSM := Lib.hid (rsameC z z2 a a2 P P2 cp cp2 A' A2 ca ca2 ps gs ps2 gs2 (w5.alloc (.cells (cellsCall z2 a2 (.slice P2 ps2.length cp2) (.slice A2 gs2.length ca2)) 25)) (w5.alloc (.cells (cellsCall z2 a2 (.slice P2 ps2.length cp2) (.slice A2 gs2.length ca2)) 25)).heap.size (Nat.le_refl _) ((HP3.out.keep k6 (Nat.le_refl _)).more k6.size) ((HA3.out.keep k6 (Nat.le_refl _)).more k6.size) ((hP2.keep hal5 (Nat.le_refl _)).more hal5.size) ((hA2.keep hal5 (Nat.le_refl _)).more hal5.size) HLE.out.1 HLE.out.2 l4.1 l4.2)
    clear q0 q1 q2 q3 q4 q5 q6 heq hC hop hog hP2 hA2 hal5 C4 hb5 l4 hb4
    have q0 := C6.cell 0
    have q1 := C6.cell 1
    have q2 := C6.cell 2
    have q3 := C6.cell 3
    have q4 := C6.cell 4
    have q5 := C6.cell 5
    have q6 := C6.cell 6
    have r0 := D6.cell 0
    have r1 := D6.cell 1
    have r2 := D6.cell 2
    have r3 := D6.cell 3
    have r4 := D6.cell 4
    have r5 := D6.cell 5
    have r6 := D6.cell 6
    go_wp2_with fail
    refine HSM.out.mono ?_
    rintro e w7 ⟨r, rfl, hr, hb7⟩
    obtain rfl : r = true := hr.2 HEQ.out
    clear hr
    have b7 := below_then b6 hb7
    go_wp2_with fail
    refine (HAW.out _ b7).mono ?_
    rintro e w8 ⟨rfl, hb8⟩
    go_wp2_with fail
    go_ret
    exact ⟨rfl, below_then b7 hb8⟩
  · have t0 : (callE z a ps gs != 0) = true := by simpa using h0
    clear h0
    go_wp2_with fail
    refine (HCK.out _ hb4).mono ?_
    rintro e w5 ⟨rfl, hb5⟩
    have b5 := below_then b4 hb5
    go_wp2_with fail
    refine (HAW.out _ b5).mono ?_
    rintro e w8 ⟨rfl, hb8⟩
    go_wp2_with fail
    go_ret
    exact ⟨rfl, below_then b5 hb8⟩
end Go.Proofs.YtokkbboahajbhaaDoor
/- The walk of CallBack, with what the row lists. -/

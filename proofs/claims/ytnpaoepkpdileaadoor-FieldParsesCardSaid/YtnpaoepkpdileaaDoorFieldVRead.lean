/- readValue of the program. -/
import Derived.Test.YtnpaoepkpdileaaDoorFieldFmt
import Derived.Test.YtnpaoepkpdileaaDoorFieldRead
import Derived.Test.YtnpaoepkpdileaaDoorFieldCtx
import Derived.Test.YtnpaoepkpdileaaDoorEnvN
import Derived.Test.YtnpaoepkpdileaaDoorUnquote
import Derived.Test.YtnpaoepkpdileaaDoorSrc
namespace Go.Proofs.YtnpaoepkpdileaaDoor
open Go.RowKit
theorem atoi_boundsF {l : List UInt8} {v : Int} (h : Lib.atoiAll l = .ok v) : I64 v := by
  cases l with
  | nil => cases h
  | cons c r =>
    unfold I64
    by_cases h43 : c.toNat = 43
    · have : c = 43 := UInt8.toNat_inj.1 h43
      subst this
      rw [Lib.atoiAll_plus] at h
      exact Lib.signless_bounds h
    · by_cases h45 : c.toNat = 45
      · have : c = 45 := UInt8.toNat_inj.1 h45
        subst this
        rw [Lib.atoiAll_minus] at h
        exact Lib.signed_bounds h
      · rw [Lib.atoiAll_plain c r h43 h45] at h
        exact Lib.signless_bounds h
/-- What readValue leaves: the test with its value, and whether it was one. -/
def RdV (w0 w : World) (g : Nat) (fd op : Int) (V : ByteArray) (e : Ending) (w' : World) : Prop := ∃ (ok : Bool) (nu : Int) (tx : ByteArray) (ot : Int), e = .returned (.bool ok) ∧ Blk w' g 23 (testC fd op nu tx ot) ∧ (ok = true → ReadV fd V nu tx ot) ∧ (ok = false → ∀ nu tx ot, ¬ ReadV fd V nu tx ot) ∧ (ok = true → I64 nu) ∧ tx.size ≤ 640 ∧ w.grownBy w' (some g) ∧ Below w0.heap.size w0 w'
theorem readV_text {fd : Int} {V : ByteArray} (ht : textB fd = true) (h : unqE V = 0) : ReadV fd V 0 (unqS V) 0 := .inl ⟨ht, h, rfl, rfl, rfl⟩
theorem readV_text_no {fd : Int} {V : ByteArray} (ht : textB fd = true) (h : unqE V ≠ 0) : ∀ nu tx ot, ¬ ReadV fd V nu tx ot := by
  rintro nu tx ot (k | k | k)
  · exact h k.2.1
  · rw [ht] at k; cases k.1
  · rw [ht] at k; cases k.1
theorem readV_name {fd : Int} {V : ByteArray} (ht : textB fd = false) (h : numF V ≠ 0) : ReadV fd V 0 ⟨#[]⟩ (numF V) := .inr (.inl ⟨ht, h, rfl, rfl, rfl⟩)
theorem readV_num {fd : Int} {V : ByteArray} {v : Int} (ht : textB fd = false) (h : numF V = 0) (hi : I64 v) (e : numS v = V) : ReadV fd V v ⟨#[]⟩ 0 := .inr (.inr ⟨ht, h, rfl, rfl, hi, e⟩)
theorem readV_num_no {fd : Int} {V : ByteArray} (ht : textB fd = false) (h : numF V = 0) (hn : ∀ v, I64 v → numS v ≠ V) : ∀ nu tx ot, ¬ ReadV fd V nu tx ot := by
  rintro nu tx ot (k | k | k)
  · rw [ht] at k; cases k.1
  · exact k.2.1 h
  · exact hn nu k.2.2.2.2.1 k.2.2.2.2.2
theorem unqS_640 (V : ByteArray) : (unqS V).size ≤ 640 := by
  cases hu : unqO V.data.toList with
  | none => rw [unqS_none hu]; decide
  | some t =>
    rw [unqS_some hu]
    show t.toArray.size ≤ 640
    simpa using (of_unqO hu).2
theorem i64_zero : I64 0 := ⟨by decide, by decide⟩
attribute [local irreducible] textB numF numS unqS unqE
set_option maxRecDepth 100000 in
set_option maxHeartbeats 4000000 in
theorem vreadF (w0 : World) (g : Nat) (hg0 : w0.heap.size ≤ g) (fd op : Int) (V : ByteArray) (hV : V.size ≤ 1000000) (w : World) (hb0 : Below w0.heap.size w0 w) (hT : Blk w g 23 (testC fd op 0 ⟨#[]⟩ 0)) (hn : FNames w0) (he : Env w0) :
    Calls Tryd.prog 43 #[.pointer (some ⟨g, 0, none⟩), .string V] w (RdV w0 w g fd op V) := by
  obtain ⟨q0, q1, q2, q3, q4⟩ := test_cells hT
  have HT := Lib.hid hT
  have HB0 := Lib.hid hb0
  have CT := Lib.hid (fun W => vtextF fd W)
  have HNF := Lib.hid (fun (W : World) (h : Below w0.heap.size w0 W) => vnumF V W (hn.below h))
  have HENV := Lib.hid (fun (W : World) (h : Below w0.heap.size w0 W) => he.below h)
  have f4 := hT.free 4
  have f3 := hT.free 3
  clear hn he hb0 hT
  cases ht : textB fd
  · rw [ht] at CT
    have HTX := Lib.hid ht
    clear ht f3
    by_cases h0 : numF V = 0
    · have H0 := Lib.hid h0
      rw [h0] at HNF
      clear h0
      have HT1 := Lib.hid (show Blk (w.setCell ⟨g, 4, none⟩ (.int .i64 0)) g 23 (testC fd op 0 ⟨#[]⟩ 0) from HT.out.put 4 (.int .i64 0))
      have HO1 := Lib.hid (only_setCell (World.grownBy.refl w (some g)) (p := ⟨g, 4, none⟩) (.inl rfl) (.int .i64 0))
      have HB1 := Lib.hid (HB0.out.setCell (p := ⟨g, 4, none⟩) hg0 (.int .i64 0))
      by_cases hv : ∃ v, Lib.atoiAll V.data.toList = .ok v
      · obtain ⟨v, hv⟩ := hv
        have HI := Lib.hid (atoi_boundsF hv)
        have HA := Lib.hid (fun W => vatoi_ok V hV v hv W)
        have HU := Lib.hid (show ∀ m, I64 m → numS m = V → m = v from fun m hm e => by have := atoi_num hm e; rw [hv] at this; injection this with this; exact this.symm)
        have HIT := Lib.hid (fun (W : World) (h : Below w0.heap.size w0 W) => vitoa v HI.out.1 HI.out.2 W (HENV.out W h).pow)
        clear hv
        go_enter Tryd.func43, Tryd.ntmps43
        go_wp2_with fail
        refine (CT.out _).mono ?_
        rintro e w1 ⟨rfl, rfl⟩
        go_wp2_with fail
        refine (HNF.out _ HB0.out).mono ?_
        rintro e w1 ⟨rfl, rfl⟩
        go_wp2_with fail
        refine (HA.out _).mono ?_
        rintro e w2 ⟨rfl, hb2⟩
        have hT2 := HT1.out.below hb2
        have HO2 := Lib.hid (only_below HO1.out hb2)
        have HB2 := Lib.hid (HB1.out.trans (hb2.mono HB1.out.size))
        clear q0 q1 q2 q3 q4 f4 hb2 HO1 HB1
        obtain ⟨q0, q1, q2, q3, q4⟩ := test_cells hT2
        have f2 := hT2.free 2
        have HT3 := Lib.hid (show Blk (w2.setCell ⟨g, 2, none⟩ (.int .i64 v)) g 23 (testC fd op v ⟨#[]⟩ 0) from hT2.put 2 (.int .i64 v))
        have HO3 := Lib.hid (only_setCell HO2.out (p := ⟨g, 2, none⟩) (.inl rfl) (.int .i64 v))
        have HB3 := Lib.hid (HB2.out.setCell (p := ⟨g, 2, none⟩) hg0 (.int .i64 v))
        clear hT2 HT1
        go_wp2_with fail
        refine (HIT.out _ HB3.out).mono ?_
        rintro e w4 ⟨rfl, hb4⟩
        have HT4 := Lib.hid (HT3.out.below hb4)
        have HO4 := Lib.hid (only_below HO3.out hb4)
        have HB4 := Lib.hid (HB3.out.trans (hb4.mono HB3.out.size))
        clear hb4
        by_cases hs : numS v = V
        · have es := str_eq hs
          have HR := Lib.hid (readV_num HTX.out H0.out HI.out hs)
          clear hs
          go_wp2_with fail
          go_ret
          exact ⟨true, v, ⟨#[]⟩, 0, ret_b (by first | rfl | simp), HT4.out, fun _ => HR.out, fun h => by (cases h), fun _ => HI.out, by decide, HO4.out, HB4.out⟩
        · have es := str_ne hs
          have HR := Lib.hid (readV_num_no (fd := fd) HTX.out H0.out (fun m hm e => hs ((HU.out m hm e) ▸ e)))
          clear hs
          go_wp2_with fail
          go_ret
          exact ⟨false, v, ⟨#[]⟩, 0, ret_b (by first | rfl | simp), HT4.out, fun h => by (cases h), fun _ => HR.out, fun _ => HI.out, by decide, HO4.out, HB4.out⟩
      · have HA := Lib.hid (fun (W : World) (h : Below w0.heap.size w0 W) => vatoi_bad V hV (fun v h => hv ⟨v, h⟩) W (HENV.out W h))
        have HR := Lib.hid (readV_num_no (fd := fd) HTX.out H0.out (fun m hm e => hv ⟨m, atoi_num hm e⟩))
        have HAB := Lib.hid (show ∀ v, Lib.atoiAll V.data.toList ≠ .ok v from fun v h => hv ⟨v, h⟩)
        clear hv
        go_enter Tryd.func43, Tryd.ntmps43
        go_wp2_with fail
        refine (CT.out _).mono ?_
        rintro e w1 ⟨rfl, rfl⟩
        go_wp2_with fail
        refine (HNF.out _ HB0.out).mono ?_
        rintro e w1 ⟨rfl, rfl⟩
        go_wp2_with fail
        refine (HA.out _ HB1.out).mono ?_
        rintro e w2 ⟨v, N, rfl, hb2⟩
        have hT2 := HT1.out.below hb2
        have HO2 := Lib.hid (only_below HO1.out hb2)
        have HB2 := Lib.hid (HB1.out.trans (hb2.mono HB1.out.size))
        clear q0 q1 q2 q3 q4 f4 hb2 HO1 HB1
        obtain ⟨q0, q1, q2, q3, q4⟩ := test_cells hT2
        have f2 := hT2.free 2
        have HT3 := Lib.hid (show Blk (w2.setCell ⟨g, 2, none⟩ (.int .i64 v)) g 23 (testC fd op v ⟨#[]⟩ 0) from hT2.put 2 (.int .i64 v))
        have HO3 := Lib.hid (only_setCell HO2.out (p := ⟨g, 2, none⟩) (.inl rfl) (.int .i64 v))
        have HB3 := Lib.hid (HB2.out.setCell (p := ⟨g, 2, none⟩) hg0 (.int .i64 v))
        clear hT2 HT1
        go_wp2_with fail
        go_ret
        exact ⟨false, v, ⟨#[]⟩, 0, ret_b (by first | rfl | simp), HT3.out, fun h => by (cases h), fun _ => HR.out, fun h => by (cases h), by decide, HO3.out, HB3.out⟩
    · have b0 : (numF V != 0) = true := by simpa using h0
      have HR := Lib.hid (readV_name HTX.out h0)
      have HT1 := Lib.hid (show Blk (w.setCell ⟨g, 4, none⟩ (.int .i64 (numF V))) g 23 (testC fd op 0 ⟨#[]⟩ (numF V)) from HT.out.put 4 (.int .i64 (numF V)))
      have HO1 := Lib.hid (only_setCell (World.grownBy.refl w (some g)) (p := ⟨g, 4, none⟩) (.inl rfl) (.int .i64 (numF V)))
      have HB1 := Lib.hid (HB0.out.setCell (p := ⟨g, 4, none⟩) hg0 (.int .i64 (numF V)))
      clear h0
      go_enter Tryd.func43, Tryd.ntmps43
      go_wp2_with fail
      refine (CT.out _).mono ?_
      rintro e w1 ⟨rfl, rfl⟩
      go_wp2_with fail
      refine (HNF.out _ HB0.out).mono ?_
      rintro e w1 ⟨rfl, rfl⟩
      go_wp2_with fail
      go_ret
      exact ⟨true, 0, ⟨#[]⟩, numF V, rfl, HT1.out, fun _ => HR.out, fun h => by (cases h), fun _ => i64_zero, by decide, HO1.out, HB1.out⟩
  · rw [ht] at CT
    have HUQ := Lib.hid (vunquote V w hV (HENV.out w HB0.out).tab)
    have HZ := Lib.hid (unqS_640 V)
    clear f4
    go_enter Tryd.func43, Tryd.ntmps43
    go_wp2_with fail
    refine (CT.out _).mono ?_
    rintro e w1 ⟨rfl, rfl⟩
    go_wp2_with fail
    refine HUQ.out.mono ?_
    rintro e w2 ⟨rfl, hb2⟩
    have hT2 := HT.out.below hb2
    have HO2 := Lib.hid (only_below (World.grownBy.refl w (some g)) hb2)
    have HB2 := Lib.hid (HB0.out.trans (hb2.mono HB0.out.size))
    clear q0 q1 q2 q3 q4 f3 hb2
    obtain ⟨q0, q1, q2, q3, q4⟩ := test_cells hT2
    have f3 := hT2.free 3
    have HT3 := Lib.hid (show Blk (w2.setCell ⟨g, 3, none⟩ (.string (unqS V))) g 23 (testC fd op 0 (unqS V) 0) from hT2.put 3 (.string (unqS V)))
    have HO3 := Lib.hid (only_setCell HO2.out (p := ⟨g, 3, none⟩) (.inl rfl) (.string (unqS V)))
    have HB3 := Lib.hid (HB2.out.setCell (p := ⟨g, 3, none⟩) hg0 (.string (unqS V)))
    by_cases hu : unqE V = 0
    · have HR := Lib.hid (readV_text ht hu)
      rw [hu]
      clear hu ht hT2
      go_wp2_with fail
      go_ret
      exact ⟨true, 0, unqS V, 0, ret_b (by first | rfl | simp), HT3.out, fun _ => HR.out, fun h => by (cases h), fun _ => i64_zero, HZ.out, HO3.out, HB3.out⟩
    · have HR := Lib.hid (readV_text_no ht hu)
      have bu : (unqE V == 0) = false := by simpa using hu
      clear hu ht hT2
      go_wp2_with fail
      go_ret
      exact ⟨false, 0, unqS V, 0, ret_b (by first | rfl | simp [bu] | exact bu), HT3.out, fun h => by (cases h), fun _ => HR.out, fun _ => i64_zero, HZ.out, HO3.out, HB3.out⟩
end Go.Proofs.YtnpaoepkpdileaaDoor

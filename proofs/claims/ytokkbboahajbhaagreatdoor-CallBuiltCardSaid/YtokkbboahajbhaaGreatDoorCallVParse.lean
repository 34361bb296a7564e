/- The walk of call.Parse: the call that Format writes as s, or the error. -/
import Derived.Test.YtokkbboahajbhaaGreatDoorCallVRead
namespace Go.Proofs.YtokkbboahajbhaaGreatDoor
open Go.RowKit
/-- The seven cells of block g written one after the other. -/
abbrev set7 (w : World) (g : Nat) (z : Int) (a : Nat → Int) (vp va : Value) : World :=
  ((((((w.setCell ⟨g, 0, none⟩ (.int .i64 z)).setCell ⟨g, 1, none⟩ (.int .i64 (a 0))).setCell ⟨g, 2, none⟩ (.int .i64 (a 1))).setCell ⟨g, 3, none⟩ (.int .i64 (a 2))).setCell ⟨g, 4, none⟩ (.int .i64 (a 3))).setCell ⟨g, 5, none⟩ vp).setCell ⟨g, 6, none⟩ va
theorem own7 {w : World} {lo g : Nat} {v : Value} {L : List ByteArray} (h : OwnS w lo v L) (hg : g < lo) (z : Int) (a : Nat → Int) (vp va : Value) : OwnS (set7 w g z a vp va) lo v L :=
  ((((((h.put1 (p := ⟨g, 0, none⟩) hg _).put1 (p := ⟨g, 1, none⟩) hg _).put1 (p := ⟨g, 2, none⟩) hg _).put1 (p := ⟨g, 3, none⟩) hg _).put1 (p := ⟨g, 4, none⟩) hg _).put1 (p := ⟨g, 5, none⟩) hg _).put1 (p := ⟨g, 6, none⟩) hg _
theorem below7 {w0 w : World} {B g : Nat} (h : Below B w0 w) (hg : B ≤ g) (z : Int) (a : Nat → Int) (vp va : Value) : Below B w0 (set7 w g z a vp va) :=
  ((((((h.setCell (p := ⟨g, 0, none⟩) hg _).setCell (p := ⟨g, 1, none⟩) hg _).setCell (p := ⟨g, 2, none⟩) hg _).setCell (p := ⟨g, 3, none⟩) hg _).setCell (p := ⟨g, 4, none⟩) hg _).setCell (p := ⟨g, 5, none⟩) hg _).setCell (p := ⟨g, 6, none⟩) hg _
theorem blk7 {w : World} {g : Nat} {t : TypeId} {z0 : Int} {a0 : Nat → Int} {p0 q0 : Value} (h : Blk w g t (cellsCall z0 a0 p0 q0)) (z : Int) (a : Nat → Int) (vp va : Value) : Blk (set7 w g z a vp va) g t (cellsCall z a vp va) := by
  have h0 : Blk _ g t #[.int .i64 z, .int .i64 (a0 0), .int .i64 (a0 1), .int .i64 (a0 2), .int .i64 (a0 3), p0, q0] := h.put 0 (.int .i64 z)
  have h1 : Blk _ g t #[.int .i64 z, .int .i64 (a 0), .int .i64 (a0 1), .int .i64 (a0 2), .int .i64 (a0 3), p0, q0] := h0.put 1 (.int .i64 (a 0))
  have h2 : Blk _ g t #[.int .i64 z, .int .i64 (a 0), .int .i64 (a 1), .int .i64 (a0 2), .int .i64 (a0 3), p0, q0] := h1.put 2 (.int .i64 (a 1))
  have h3 : Blk _ g t #[.int .i64 z, .int .i64 (a 0), .int .i64 (a 1), .int .i64 (a 2), .int .i64 (a0 3), p0, q0] := h2.put 3 (.int .i64 (a 2))
  have h4 : Blk _ g t #[.int .i64 z, .int .i64 (a 0), .int .i64 (a 1), .int .i64 (a 2), .int .i64 (a 3), p0, q0] := h3.put 4 (.int .i64 (a 3))
  have h5 : Blk _ g t #[.int .i64 z, .int .i64 (a 0), .int .i64 (a 1), .int .i64 (a 2), .int .i64 (a 3), vp, q0] := h4.put 5 vp
  exact h5.put 6 va
def CParsePost (s : ByteArray) (w : World) (e : Ending) (w' : World) : Prop :=
  ∃ (z : Int) (a : Nat → Int) (vp va : Value) (ps gs : List ByteArray) (er : Int), e = .returned (.tuple #[.agg (cellsCall z a vp va), .int .i64 er]) ∧ CIs s z a ps gs er ∧ OwnS w' w.heap.size vp ps ∧ OwnS w' w.heap.size va gs ∧ Below w.heap.size w w'
def SplitPost (s : ByteArray) (w : World) (e : Ending) (w' : World) : Prop :=
  ∃ (x : ByteArray) (R : List ByteArray) (ad : Addr), e = .returned (.slice (some ad) (R.length + 1) (R.length + 1)) ∧ IsW 32 s (x :: R) ∧ StrsAt w' w'.heap.size (some ad) (x :: R) ∧ Below w.heap.size w w'
theorem strs_whole (w : World) (L : List ByteArray) (t : TypeId) : StrsAt (w.alloc (.cells (L.map Value.string).toArray t)) (w.alloc (.cells (L.map Value.string).toArray t)).heap.size (some ⟨w.heap.size, 0, none⟩) L := fun k hk => by
  refine ⟨_, rfl, by simp, ?_⟩
  have e : (⟨w.heap.size, 0, none⟩ : Addr).add k = ⟨w.heap.size, k, none⟩ := by
    unfold Addr.add
    split
    · rename_i h; rw [h]
    · simp
  rw [e, (Blk.new w (L.map Value.string).toArray t).cell]
  simp [List.getElem?_eq_getElem hk]
theorem vsplit (s : ByteArray) (hs : s.size ≤ 100000) (w : World) (he : Mx w) :
    Calls Tryz.prog 39 #[.string s, .string ⟨#[32]⟩] w (SplitPost s w) := by
  obtain ⟨m, hm⟩ := he
  refine (Tryz.strings_Split s ⟨#[32]⟩ m w (by omega) hm (by decide)).mono ?_
  rintro e w' ⟨rfl, rfl⟩
  have hw := isW_split 32 _ s rfl
  have hl := Lib.splitB_all ⟨#[32]⟩ (by decide) 0 _ s rfl
  have hS := strs_whole w (Lib.splitB ⟨#[32]⟩ 0 (Lib.countB s ⟨#[32]⟩) s) 9
  generalize Lib.splitB ⟨#[32]⟩ 0 (Lib.countB s ⟨#[32]⟩) s = L at *
  generalize Lib.countB s ⟨#[32]⟩ = k at *
  cases L with
  | nil => exact absurd rfl hw.ne
  | cons x R =>
    obtain rfl : R.length = k := by simpa using hl
    exact ⟨x, R, _, rfl, hw, hS, (Below.refl _ _).alloc (Nat.le_refl _) _⟩
theorem FromW.sizes {x : ByteArray} {R : List ByteArray} {z : Int} {a : Nat → Int} {ps gs : List ByteArray} (h : FromW x R z a ps gs) (hl : R.length ≤ 8) : ps.length ≤ 8 ∧ gs.length ≤ 8 ∧ (∀ s ∈ ps, s.size ≤ 640) ∧ (∀ s ∈ gs, s.size ≤ 640) := by
  refine ⟨?_, ?_, ?_, ?_⟩
  · rw [h.pth]; simp; omega
  · rw [h.arg]; simp; omega
  · intro s hs
    rw [h.pth] at hs
    obtain ⟨y, _, rfl⟩ := List.mem_map.1 hs
    exact unqS_size y
  · intro s hs
    rw [h.arg] at hs
    obtain ⟨y, _, rfl⟩ := List.mem_map.1 hs
    exact unqS_size y
attribute [local irreducible] rowI rowC numC numS unqS unqE callS callE
set_option maxRecDepth 100000 in
set_option maxHeartbeats 8000000 in
theorem vparse10 (s : ByteArray) (hs : s.size ≤ 100000) (w : World) (he : Env w) (hc : Calls10 w) :
    Calls Tryz.prog 23 #[.string s] w (CParsePost s w) := by
  have HE := Lib.hid (fun (W : World) (h : Below w.heap.size w W) => he.below h)
  have HC := Lib.hid (fun (W : World) (h : Below w.heap.size w W) => hc.below h (Nat.le_refl _))
  have hb0 : Below w.heap.size w (w.alloc (.cells (cellsCall 0 (fun _ => 0) (.slice none 0 0) (.slice none 0 0)) 28)) := (Below.refl _ _).alloc (Nat.le_refl _) _
  have R0 := Blk.new w (cellsCall 0 (fun _ => 0) (.slice none 0 0) (.slice none 0 0)) 28
  clear he hc
  go_enter Tryz.func23, Tryz.ntmps23
  go_wp2_with fail
  refine (vsplit s hs _ (HE.out _ hb0).mx).mono ?_
  rintro e w1 ⟨x, R, ad, rfl, hw, hS, hb1⟩
  have R1 := R0.below hb1
  have b1 := below_then hb0 hb1
  have hlt1 := R1.lt
  have HW := Lib.hid hw
  clear R0 hb0 hb1 hw
  go_wp2_with fail
  refine (vread s x R w1 w1.heap.size ad _ _ rfl (Nat.le_refl _) (Nat.le_refl _) hS HW.out hs (HE.out _ b1) (HC.out _ b1)).mono ?_
  rintro e w2 ⟨z, a, vp, va, ps, gs, ok, rfl, hres, hop, hog, hb2⟩
  have R2 := R1.below hb2
  have b2 := below_then b1 hb2
  have hlt2 : w1.heap.size ≤ w2.heap.size := hb2.size
  obtain ⟨P, cp, e1, hP⟩ := hop.strs
  obtain ⟨A, ca, e2, hA⟩ := hog.strs
  subst e1 e2
  clear R1 b1 hb2 hS
  have hal : Below w2.heap.size w2 (w2.alloc (.cells (cellsCall z a (.slice P ps.length cp) (.slice A gs.length ca)) 28)) := (Below.refl _ _).alloc (Nat.le_refl _) _
  have R3 := R2.below hal
  have C3 := Blk.new w2 (cellsCall z a (.slice P ps.length cp) (.slice A gs.length ca)) 28
  have hop3 := hop.below hal
  have hog3 := hog.below hal
  have b3 := below_then b2 hal
  have hP3 := hP.keep hal (Nat.le_refl _)
  have hA3 := hA.keep hal (Nat.le_refl _)
  clear R2 b2 hop hog hP hA
  rcases hres with ⟨rfl, hF, hI, hl8⟩ | ⟨rfl, hN⟩
  · have hsz := hF.sizes hl8
    obtain ⟨z1, z2, z3, z4⟩ := hsz
    have HV := Lib.hid (vformat10 z a P cp A ca ps gs (w2.alloc (.cells (cellsCall z a (.slice P ps.length cp) (.slice A gs.length ca)) 28)) w2.heap.size (by simp) hP3 hA3 (by omega) (by omega) (fun s hs => by have := z3 s hs; unfold maxLen; omega) (fun s hs => by have := z4 s hs; unfold maxLen; omega) (fun j hj => hI j hj) (HC.out _ b3) (HE.out _ b3).tab (HE.out _ b3).pow)
    have HF := Lib.hid hF
    have HI := Lib.hid hI
    clear hF hI z3 z4 hP3 hA3
    have q0 := C3.cell 0
    have q1 := C3.cell 1
    have q2 := C3.cell 2
    have q3 := C3.cell 3
    have q4 := C3.cell 4
    have q5 := C3.cell 5
    have q6 := C3.cell 6
    go_wp2_with fail
    refine HV.out.mono ?_
    rintro e w4 ⟨rfl, hb4⟩
    have R4 := R3.below hb4
    have C4 := C3.below hb4
    have op4 := hop3.below hb4
    have og4 := hog3.below hb4
    have b4 := below_then b3 hb4
    clear R3 C3 hop3 hog3 b3 q0 q1 q2 q3 q4 q5 q6 HV hb4 hal
    have q0 := C4.cell 0
    have q1 := C4.cell 1
    have q2 := C4.cell 2
    have q3 := C4.cell 3
    have q4 := C4.cell 4
    have q5 := C4.cell 5
    have q6 := C4.cell 6
    have r0 := R4.cell 0
    have r1 := R4.cell 1
    have r2 := R4.cell 2
    have r3 := R4.cell 3
    have r4 := R4.cell 4
    have r5 := R4.cell 5
    have r6 := R4.cell 6
    have f0 := R4.free 0
    have f1 := R4.free 1
    have f2 := R4.free 2
    have f3 := R4.free 3
    have f4 := R4.free 4
    have f5 := R4.free 5
    have f6 := R4.free 6
    by_cases h0 : callE z a ps gs = 0
    · by_cases h1 : callS z a ps gs = s
      · have HCI := Lib.hid (show CIs s z a ps gs 0 from .inl ⟨rfl, h0, h1, HI.out⟩)
        have t1 := str_eq h1
        rw [h0]
        clear h0 h1
        go_wp2_with fail
        refine bodyPost_ret (call_ret2 (fn := Tryz.f23) rfl _ _ w.heap.size _ rfl (blk7 R4 z a (.slice P ps.length cp) (.slice A gs.length ca)) rfl) rfl ?_
        exact ⟨_, _, _, _, _, _, 0, rfl, HCI.out, (own7 op4 (by omega) z a _ _).low (by omega), (own7 og4 (by omega) z a _ _).low (by omega), below7 b4 (Nat.le_refl _) z a _ _⟩
      · have HCI := Lib.hid (CIs.no (CIs.tested HF.out HW.out (fun h => h1 h.2)) (a := fun _ => 0) (fun _ _ => rfl))
        have t1 := str_ne h1
        rw [h0]
        clear h0 h1
        go_wp2_with fail
        refine bodyPost_ret (call_ret2 (fn := Tryz.f23) rfl _ _ w.heap.size _ rfl (blk7 R4 0 (fun _ => 0) (.slice none 0 0) (.slice none 0 0)) rfl) rfl ?_
        exact ⟨_, _, _, _, _, _, 103, rfl, HCI.out, OwnS.nil _ _, OwnS.nil _ _, below7 b4 (Nat.le_refl _) 0 (fun _ => 0) _ _⟩
    · have HCI := Lib.hid (CIs.no (CIs.tested HF.out HW.out (fun h => h0 h.1)) (a := fun _ => 0) (fun _ _ => rfl))
      have t0 : (callE z a ps gs != 0) = true := by simpa using h0
      clear h0
      go_wp2_with fail
      refine bodyPost_ret (call_ret2 (fn := Tryz.f23) rfl _ _ w.heap.size _ rfl (blk7 R4 0 (fun _ => 0) (.slice none 0 0) (.slice none 0 0)) rfl) rfl ?_
      exact ⟨_, _, _, _, _, _, 103, rfl, HCI.out, OwnS.nil _ _, OwnS.nil _ _, below7 b4 (Nat.le_refl _) 0 (fun _ => 0) _ _⟩
  · have HCI := Lib.hid (CIs.no hN (a := fun _ => 0) (fun _ _ => rfl))
    clear hN hop3 hog3 hP3 hA3
    have r0 := R3.cell 0
    have r1 := R3.cell 1
    have r2 := R3.cell 2
    have r3 := R3.cell 3
    have r4 := R3.cell 4
    have r5 := R3.cell 5
    have r6 := R3.cell 6
    have f0 := R3.free 0
    have f1 := R3.free 1
    have f2 := R3.free 2
    have f3 := R3.free 3
    have f4 := R3.free 4
    have f5 := R3.free 5
    have f6 := R3.free 6
    go_wp2_with fail
    refine bodyPost_ret (call_ret2 (fn := Tryz.f23) rfl _ _ w.heap.size _ rfl (blk7 R3 0 (fun _ => 0) (.slice none 0 0) (.slice none 0 0)) rfl) rfl ?_
    exact ⟨_, _, _, _, _, _, 103, rfl, HCI.out, OwnS.nil _ _, OwnS.nil _ _, below7 b3 (Nat.le_refl _) 0 (fun _ => 0) _ _⟩
end Go.Proofs.YtokkbboahajbhaaGreatDoor

/- awake, light, agrees of the laws on calls. -/
import Derived.Test.YtokkbboahajbhaaGreatDoorCallRFmt
namespace Go.Proofs.YtokkbboahajbhaaGreatDoor
open Go.RowKit
def aAw : Nat → Int := fun j => if j = 0 then 6 else if j = 1 then 420 else 0
set_option maxRecDepth 100000 in
theorem awake_text : callS 6 aAw [⟨#[47, 97]⟩] [] = ⟨#[111, 112, 101, 110, 32, 54, 32, 52, 50, 48, 32, 34, 47, 97, 34]⟩ := by decide +kernel
theorem awake_err : callE 6 aAw [⟨#[47, 97]⟩] [] = 0 := by decide +kernel
theorem one_str (w : World) (x : ByteArray) (t : TypeId) : StrsAt (w.alloc (.cells #[.string x] t)) (w.heap.size + 1) (some ⟨w.heap.size, 0, none⟩) [x] := fun k hk => by
  have hk : k = 0 := by simp at hk; omega
  subst hk
  exact ⟨_, rfl, by show w.heap.size < _; omega, by show World.cell? _ ⟨w.heap.size, 0, none⟩ = _; rw [(Blk.new w #[.string x] t).cell]; rfl⟩
attribute [local irreducible] callS callE
set_option maxHeartbeats 1000000 in
theorem awake10 (w : World) (hc : Calls10 w) (hT : Tab w) (hW : Pow w) : Calls Tryz.prog 8 #[] w fun e w' => e = .returned (.bool true) ∧ Below w.heap.size w w' := by
  have hal : Below w.heap.size w (w.alloc (.cells #[.string ⟨#[47, 97]⟩] 9)) := (Below.refl _ _).alloc (Nat.le_refl _) _
  have HF := Lib.hid (vformat10 6 aAw (some ⟨w.heap.size, 0, none⟩) 1 none 0 [⟨#[47, 97]⟩] [] (w.alloc (.cells #[.string ⟨#[47, 97]⟩] 9)) (w.heap.size + 1) (by simp) (one_str w _ 9) StrsAt.nil (by simp) (by simp) (by intro s hs; simp at hs; subst hs; decide) (by intro s hs; cases hs) (by intro j _; unfold aAw; split <;> (try split) <;> omega) (hc.below hal (Nat.le_refl _)) (hT.below hal (Nat.le_refl _)) (hW.below hal (Nat.le_refl _)))
  rw [awake_text, awake_err] at HF
  clear hc hT hW hal
  go_enter Tryz.func8, Tryz.ntmps8
  go_wp2_with fail
  refine HF.out.mono ?_
  rintro e w1 ⟨rfl, hb⟩
  go_wp2_with fail
  refine (vcount _).mono ?_
  rintro e w2 ⟨rfl, rfl⟩
  go_wp2_with fail
  go_ret
  exact ⟨rfl, unbox' hb⟩
def lightB (ps gs : List ByteArray) : Bool := decide (ps.length ≤ 6) && decide (gs.length ≤ 8) && !longB ps 300 && !longB gs 300
theorem lightB_inv {ps gs : List ByteArray} (h : lightB ps gs = true) : ps.length ≤ 6 ∧ gs.length ≤ 8 ∧ longB ps 300 = false ∧ longB gs 300 = false := by
  unfold lightB at h; simp at h; exact ⟨h.1.1.1, h.1.1.2, h.1.2, h.2⟩
attribute [local irreducible] lightB longB
end Go.Proofs.YtokkbboahajbhaaGreatDoor

/- Slices of strings. -/
import Derived.Test.YtnpaoepkpdileaaDoorBlk
import Derived.Test.YtnpaoepkpdileaaDoorFrame
namespace Go.Proofs.YtnpaoepkpdileaaDoor
open Go.ChangeShapes Go.WideShapes Go.RowKit
/-- The slice at A reads as the strings ss; it lies below block B. -/
def StrsAt (w : World) (B : Nat) (A : Option Addr) (ss : List ByteArray) : Prop := ∀ k (hk : k < ss.length), ∃ ad : Addr, A = some ad ∧ ad.block < B ∧ w.cell? (ad.add k) = some (.string (ss[k]'hk))
theorem strs_block (a : Addr) (n : Nat) : (a.add n).block = a.block := by unfold Addr.add; split <;> rfl
theorem StrsAt.keep {w w' : World} {B B' : Nat} {A : Option Addr} {ss : List ByteArray} (h : StrsAt w B A ss) (hb : Below B' w w') (hB : B ≤ B') : StrsAt w' B A ss := fun k hk => by
  obtain ⟨ad, e, hl, hc⟩ := h k hk
  exact ⟨ad, e, hl, (hb.cell (by rw [strs_block]; omega)).trans hc⟩
theorem StrsAt.more {w : World} {B B' : Nat} {A : Option Addr} {ss : List ByteArray} (h : StrsAt w B A ss) (hB : B ≤ B') : StrsAt w B' A ss := fun k hk => by
  obtain ⟨ad, e, hl, hc⟩ := h k hk
  exact ⟨ad, e, by omega, hc⟩
theorem StrsAt.nil {w : World} {B : Nat} {A : Option Addr} : StrsAt w B A [] := fun k hk => by simp at hk
theorem StrsAt.setCell {w : World} {B : Nat} {A : Option Addr} {ss : List ByteArray} (h : StrsAt w B A ss) {p : Addr} (hp : B ≤ p.block) (u : Value) : StrsAt (w.setCell p u) B A ss :=
  h.keep ((Below.refl B w).setCell hp u) (Nat.le_refl _)
def longB (ss : List ByteArray) (m : Nat) : Bool := ss.any fun s => decide (m < s.size)
theorem long_at {ss : List ByteArray} {m k : Nat} (hk : k < ss.length) (h : m < ss[k].size) : longB ss m = true := by
  unfold longB; rw [List.any_eq_true]
  exact ⟨ss[k], List.getElem_mem hk, by simpa using h⟩
theorem long_all {ss : List ByteArray} {m : Nat} (h : ∀ j (hj : j < ss.length), ss[j].size ≤ m) : longB ss m = false := by
  unfold longB; rw [List.any_eq_false]
  intro s hs
  obtain ⟨j, hj, rfl⟩ := List.getElem_of_mem hs
  simpa using h j hj
theorem long_inv {ss : List ByteArray} {m : Nat} (h : longB ss m = false) : ∀ j (hj : j < ss.length), ss[j].size ≤ m := by
  intro j hj
  unfold longB at h
  have := (List.any_eq_false.1 h) _ (List.getElem_mem hj)
  simpa using this
end Go.Proofs.YtnpaoepkpdileaaDoor

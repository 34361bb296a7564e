/- Slices of numbers that came in. -/
import Derived.Test.YtllomoplpoeggaaDoorOwn
import Derived.Test.YtllomoplpoeggaaDoorFrame
namespace Go.Proofs.YtllomoplpoeggaaDoor
open Go.ChangeShapes Go.WideShapes Go.RowKit
/-- The slice at A reads as the numbers zs; it lies below block B. -/
def IntsAt (w : World) (B : Nat) (A : Option Addr) (zs : List Int) : Prop := ∀ k (hk : k < zs.length), ∃ ad : Addr, A = some ad ∧ ad.block < B ∧ w.cell? (ad.add k) = some (.int .i64 (zs[k]'hk))
theorem ints_block (a : Addr) (n : Nat) : (a.add n).block = a.block := by unfold Addr.add; split <;> rfl
theorem IntsAt.keep {w w' : World} {B : Nat} {A : Option Addr} {zs : List Int} (h : IntsAt w B A zs) (hb : Below B w w') : IntsAt w' B A zs := fun k hk => by
  obtain ⟨ad, e, hl, hc⟩ := h k hk
  exact ⟨ad, e, hl, (hb.cell (by rw [ints_block]; exact hl)).trans hc⟩
theorem IntsAt.more {w : World} {B B' : Nat} {A : Option Addr} {zs : List Int} (h : IntsAt w B A zs) (hB : B ≤ B') : IntsAt w B' A zs := fun k hk => by
  obtain ⟨ad, e, hl, hc⟩ := h k hk
  exact ⟨ad, e, by omega, hc⟩
theorem ints_arg2 {H : Type} {enc : TypeId × Value → H} {P : Program} {W : World} {base : Nat} {t e : TypeId} {v : Value} {d : DataW H} {p : List MemPlace} (ht : P.underlying t = some (.slice e)) (he : P.underlying e = some (.int .i64)) (hc : P.cellsOf e = 1)
    (hv : Value.okWide P W .any base t v) (h : DataW.Trod enc P W 0 (fun _ => true) true t v d p) (hlt : ∀ x ∈ p, x.block < W.heap.size) :
    ∃ (A : Option Addr) (c : Nat) (zs : List Int), v = .slice A zs.length c ∧ zs.length ≤ maxLen ∧ IntsAt W W.heap.size A zs ∧ ∀ z ∈ zs, -9223372036854775808 ≤ z ∧ z ≤ 9223372036854775807 := by
  obtain ⟨a0, len, cap, rfl⟩ := okWide_slice ht hv
  obtain ⟨fuel, hf⟩ := h
  rcases open_ints ht he hc hf with ⟨hcs, hx⟩ | ⟨a, len', cap', zs, hcs, _, hl, hm, hz, hx, hcell, hwz⟩
  · simp [Value.cells] at hcs
    obtain ⟨rfl, rfl, rfl⟩ := hcs
    exact ⟨none, 0, [], rfl, by simp, fun k hk => by simp at hk, by simp⟩
  · simp [Value.cells] at hcs
    obtain ⟨rfl, rfl, rfl⟩ := hcs
    simp only [if_true] at hz
    have hlz : (zs.take len).length = len := by rw [List.length_take]; omega
    refine ⟨some a, cap, zs.take len, by rw [hlz], by rw [hlz]; omega, fun k hk => ?_, fun z hz' => bounds_i64 (hwz z (List.mem_of_mem_take hz'))⟩
    have hkz : k < zs.length := by rw [hlz] at hk; omega
    refine ⟨a, rfl, ?_, ?_⟩
    · injection hx with _ hp
      have hmem : MemPlace.cell a.block (a.off + 0) ∈ p := by
        rw [hp]; unfold MemPlace.row; simp; omega
      exact hlt _ hmem
    · rw [hcell k hkz, List.getElem_take, List.getD_eq_getElem?_getD, List.getElem?_eq_getElem hkz]; rfl
end Go.Proofs.YtllomoplpoeggaaDoor

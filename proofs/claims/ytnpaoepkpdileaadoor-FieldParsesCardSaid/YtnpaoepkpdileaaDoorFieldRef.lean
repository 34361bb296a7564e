/- Reading a test as the reference does: plain facts. -/
import Derived.Test.YtnpaoepkpdileaaDoorFieldRead
import Derived.Test.YtnpaoepkpdileaaDoorReadN
namespace Go.Proofs.YtnpaoepkpdileaaDoor
/-- What the reference reads of the value V of a field. -/
def refTx (fd : Int) (V : ByteArray) : ByteArray := if numF V = 0 ∧ textB fd = true then unqS V else ⟨#[]⟩
def refNu (fd : Int) (V : ByteArray) : Int := if numF V = 0 ∧ textB fd = false then rdN V else 0
theorem ref_complete {fd op nu : Int} {tx : ByteArray} {ot l : Int} (h : checkF fd op nu tx ot l = 0) (hi : I64 nu) : ot = numF (valS fd nu tx ot) ∧ tx = refTx fd (valS fd nu tx ot) ∧ nu = refNu fd (valS fd nu tx ot) := by
  have hc := ReadV.complete h hi
  obtain ⟨h1, h2, h3, h4, h5, h6, h7⟩ := checkF_zero h
  have hv := hc.val
  generalize valS fd nu tx ot = V at *
  unfold refTx refNu
  rcases hc with ⟨k1, k2, rfl, rfl, rfl⟩ | ⟨k1, k2, rfl, rfl, rfl⟩ | ⟨k1, k2, rfl, rfl, k5, k6⟩
  · have hz : numF V = 0 := by
      have hq := unq_textF k2
      have hs : (unqS V).size ≤ 640 := by rcases h6 with h | h; rw [k1] at h; cases h; exact h.2.2
      obtain ⟨c, r, e, hc⟩ := quoteL_headF (unqS V).data.toList
      exact numF_other (c := c) (r := r) (by rw [← e, ← quoteS_list _ hs, hq]) (by omega)
    rw [if_pos ⟨hz, k1⟩, if_neg (by rw [k1]; simp)]
    exact ⟨hz.symm, rfl, rfl⟩
  · rw [if_neg (fun h => k2 h.1), if_neg (fun h => k2 h.1)]
    exact ⟨rfl, rfl, rfl⟩
  · rw [if_neg (by rw [k1]; simp), if_pos ⟨k2, k1⟩, ← k6, rdN_num nu k5.1 k5.2]
    exact ⟨by rw [k6, k2], rfl, rfl⟩
/-- Where the reference's loops end without a test, none has the text. -/
theorem no_ref {s : ByteArray} (h : ∀ f o : Nat, 1 ≤ f → f ≤ 22 → 1 ≤ o → o ≤ 8 → ∀ V : ByteArray, fieldN f ++ opN o ++ V = s → ¬ (anyE f o (refNu f V) (refTx f V) (numF V) = 0 ∧ testS f o (refNu f V) (refTx f V) (numF V) = s)) : NoTest s := by
  intro fd op nu tx ot hi h0 e
  obtain ⟨l, hl⟩ := anyE_zero h0
  obtain ⟨h1, h2, h3, _⟩ := checkF_zero hl
  have r1 := allow_range h1
  have e1 := e
  unfold testS at e1
  rw [if_pos h0] at e1
  obtain ⟨c1, c2, c3⟩ := ref_complete hl hi
  have hf : ((fd.toNat : Nat) : Int) = fd := by omega
  have ho : ((op.toNat : Nat) : Int) = op := by omega
  refine h fd.toNat op.toNat (by omega) (by omega) (by omega) (by omega) _ e1 ?_
  rw [hf, ho, ← c1, ← c2, ← c3]
  exact ⟨h0, e⟩
end Go.Proofs.YtnpaoepkpdileaaDoor

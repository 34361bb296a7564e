/- Numbers as texts: Itoa of Go's library. -/
import Derived.Test.YtnpaoepkpdileaaDoorDecimal
import Derived.Test.YtnpaoepkpdileaaDoorShelf
import Derived.Lib.AppendIntMem
namespace Go.Proofs.YtnpaoepkpdileaaDoor
open Go.RowKit
/-- The decimal numeral of n as a string. -/
def numS (n : Int) : ByteArray := ⟨(Lib.itoa n).toArray⟩
/-- The table of powers of ten of Go's library. -/
def Pow (w : World) : Prop := Lib.TabIs Tryd.prog w "internal/strconv.uint64pow10" .u64 Lib.pow10Tab
theorem pow_g : Tryd.prog.globalNamed "internal/strconv.uint64pow10" = some 6 := by kernel_rfl
theorem var_below {P : Program} {w w' : World} {name : String} {g : Nat} {cs : Array Value} {B : Nat} (hg : P.globalNamed name = some g) (h : w.var? P name = some cs) (hb : Below B w w') (hB : w.heap.size ≤ B) : w'.var? P name = some cs := by
  have hlt : g < w.heap.size := by
    unfold World.var? at h
    rw [hg] at h
    simp only [Option.bind_some] at h
    split at h
    · rename_i he
      exact (Array.getElem?_eq_some_iff.1 he).1
    · cases h
  unfold World.var? at h ⊢
  rw [hg] at h ⊢
  simp only [Option.bind_some] at h ⊢
  rw [hb.block g (by omega)]
  exact h
theorem Pow.below {B : Nat} {w w' : World} (h : Pow w) (hb : Below B w w') (hB : w.heap.size ≤ B) : Pow w' := var_below pow_g h hb hB
theorem vitoa (n : Int) (h0 : -9223372036854775808 ≤ n) (h1 : n ≤ 9223372036854775807) (w : World) (hp : Pow w) :
    Calls Tryd.prog 51 #[.int .i64 n] w fun e w' => e = .returned (.string (numS n)) ∧ Below w.heap.size w w' :=
  (Tryd.strconv_Itoa n h0 h1 w hp).mono fun _ _ hh => ⟨hh.1, by obtain ⟨k, os, rfl⟩ := hh.2; exact Lib.below_grow _ _ (Nat.le_refl _) _ _⟩
end Go.Proofs.YtnpaoepkpdileaaDoor

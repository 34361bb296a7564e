/- What the walks read of the variables; Atoi. -/
import Derived.Test.YtnpaoepkpdileaaDoorAtoiPlain
import Derived.Test.YtnpaoepkpdileaaDoorQuote
import Derived.Test.YtnpaoepkpdileaaDoorItoa
import Derived.Test.YtnpaoepkpdileaaDoorBlk
import Derived.Test.YtnpaoepkpdileaaDoorShelf
import Derived.Deep.DrawnRows
namespace Go.Proofs.YtnpaoepkpdileaaDoor
open Go.RowKit
def Mx (w : World) : Prop := ∃ m, w.cell? ⟨3, 0, none⟩ = some (.int .i64 m)
def ErrV (w : World) (g : Nat) : Prop := ∃ ev, w.cell? ⟨g, 0, none⟩ = some ev ∧ (ev = .nilIface ∨ ∃ te pe, ev = .iface te pe)
structure Env (w : World) : Prop where
  tab : Tab w
  pow : Pow w
  mx : Mx w
  es : ErrV w 4
  er : ErrV w 5
theorem Mx.below {w w' : World} (h : Mx w) (hb : Below w.heap.size w w') : Mx w' := by
  obtain ⟨m, hm⟩ := h
  exact ⟨m, (hb.cell (block_lt_of_cell hm)).trans hm⟩
theorem ErrV.below {w w' : World} {g : Nat} (h : ErrV w g) (hb : Below w.heap.size w w') : ErrV w' g := by
  obtain ⟨ev, hm, h⟩ := h
  exact ⟨ev, (hb.cell (block_lt_of_cell hm)).trans hm, h⟩
theorem Env.below {w w' : World} (h : Env w) (hb : Below w.heap.size w w') : Env w' :=
  ⟨h.tab.below hb (Nat.le_refl _), h.pow.below hb (Nat.le_refl _), h.mx.below hb, h.es.below hb, h.er.below hb⟩
theorem vatoi_ok (s : ByteArray) (hs : s.size ≤ 1000000) (v : Int) (h : Lib.atoiAll s.data.toList = .ok v) (w : World) :
    Calls Tryd.prog 72 #[.string s] w fun e w' => e = .returned (.tuple #[.int .i64 v, .nilIface]) ∧ Below w.heap.size w w' :=
  (Tryd.strconv_Atoi_ok s (by omega) v h w).mono fun _ _ hh => ⟨hh.1, by
    rcases hh.2 with rfl | ⟨t, rfl⟩
    · exact Below.refl _ _
    · exact Joins.below_bytesWorld _ _ _ _ (Nat.le_refl _)⟩
def AtoiBad (w : World) (e : Ending) (w' : World) : Prop := ∃ (v : Int) (N : Nat), e = .returned (.tuple #[.int .i64 v, .iface 124 (.pointer (some ⟨N, 0, none⟩))]) ∧ Below w.heap.size w w'
theorem vatoi_bad (s : ByteArray) (hs : s.size ≤ 1000000) (h : ∀ v, Lib.atoiAll s.data.toList ≠ .ok v) (w : World) (he : Env w) :
    Calls Tryd.prog 72 #[.string s] w (AtoiBad w) := by
  cases ha : Lib.atoiAll s.data.toList
  · exact absurd ha (h _)
  · obtain ⟨ev, h1, h2⟩ := he.es
    exact (Any.strconv_Atoi_syntax Tryd.laysC172 s (by omega) ha ev w h1 h2).mono fun _ _ hh => by
      obtain ⟨N, h1, _, _, h4⟩ := hh
      exact ⟨_, N, h1, h4⟩
  · obtain ⟨ev, h1, h2⟩ := he.er
    exact (Tryd.strconv_Atoi_range s (by omega) ha ev w h1 h2).mono fun _ _ hh => by
      obtain ⟨N, h1, _, _, h4⟩ := hh
      exact ⟨_, N, h1, h4⟩
end Go.Proofs.YtnpaoepkpdileaaDoor

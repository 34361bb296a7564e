/- Rows of bytes of the call's own, and the string that they make; parts of Below. -/
import Derived.Test.YtollifnnpihfdaaDoorPlain
import Derived.OwnWalk
import Derived.Below
import Derived.Laws.AppendOwn
import Derived.Laws.IdiomStrings
import Derived.Lib.BufferRead
import Derived.Lib.SmallJoins
import Derived.Laws.Rows
import Derived.Lib.LaidTab
namespace Go.Proofs.YtollifnnpihfdaaDoor
open Go.RowKit
/-- string(b) of a row of bytes of the call's own. -/
theorem conv_own {P : Program} {w : World} {base : Nat} {src dst e : TypeId} {v : Value} {n : Nat} {l : List UInt8} (h : w.ownsRow base e 1 v n (l.map bv))
    (hs : P.underlying src = some (.slice e)) (he : P.underlying e = some (.int .u8)) (hd : P.underlying dst = some .string) :
    (convert src dst v).run P w = .ok (.string ⟨l.toArray⟩) w := by
  have hl : n = l.length := by have := h.1; simp at this; omega
  rcases Joins.ownsRow_forms h with ⟨rfl, h0⟩ | ⟨g, cap, rfl⟩
  · have : l = [] := List.eq_nil_of_length_eq_zero (by omega)
    subst this
    exact Lib.run_convert_nil_bytes w src dst e 0 hs he hd
  · subst hl
    exact run_convert_bytes_back w src dst e _ cap l hs he hd fun j hj => h.cells (g := g) rfl j _ (by simp [List.getElem?_eq_getElem hj])
theorem below_grown_own {B base size n : Nat} {e : TypeId} {v : Value} {xs : List Value} {a w w1 w2 : World} (h : Below B a w1) (hown : w.ownsRow base e size v n xs) (hb : B ≤ base) (hg : w1.grownBy w2 v.ownBlock) (hB : B ≤ w1.heap.size) : Below B a w2 :=
  h.grown hg hB fun k hk => Nat.le_trans hb (hown.lt k hk).1
theorem below_drewN {B : Nat} {a w : World} (h : Below B a w) (n : Nat) : Below B a (w.drewN n) := ⟨h.os, h.tape, h.output, h.size, h.block⟩
theorem bcell {W w1 : World} (hb : Below W.heap.size W w1) : (∀ b o, b < W.heap.size → w1.cell? ⟨b, o, none⟩ = W.cell? ⟨b, o, none⟩) ∧ (∀ b o, b < W.heap.size → w1.frozen? ⟨b, o, none⟩ = W.frozen? ⟨b, o, none⟩) :=
  ⟨fun b o h => hb.cell (p := ⟨b, o, none⟩) h, fun b o h => hb.frozen (p := ⟨b, o, none⟩) h⟩
/-- One call after the other, each of which leaves what was there. -/
theorem below_then {a b c : World} (h : Below a.heap.size a b) (k : Below b.heap.size b c) : Below a.heap.size a c := h.trans (k.mono h.size)
/-- The variable g lies whole in its block. -/
def Glob (w : World) (g : Nat) (cs : Array Value) : Prop := ∃ tt fr, w.heap[g]? = some (.cells cs tt fr)
theorem Glob.lt {w : World} {g : Nat} {cs : Array Value} (h : Glob w g cs) : g < w.heap.size := by
  obtain ⟨tt, fr, h⟩ := h
  rcases Nat.lt_or_ge g w.heap.size with hlt | hge
  · exact hlt
  · rw [Array.getElem?_eq_none hge] at h; cases h
theorem Glob.cell {w : World} {g : Nat} {cs : Array Value} (h : Glob w g cs) (i : Nat) : w.cell? ⟨g, i, none⟩ = cs[i]? := by
  obtain ⟨tt, fr, h⟩ := h
  exact cell_of_row w g i cs tt fr h
theorem Glob.below {B : Nat} {w w' : World} {g : Nat} {cs : Array Value} (h : Glob w g cs) (hb : Below B w w') (hB : w.heap.size ≤ B) : Glob w' g cs := by
  have hlt := h.lt
  obtain ⟨tt, fr, h⟩ := h
  exact ⟨tt, fr, (hb.block g (by omega)).trans h⟩
theorem glob_of_tab {P : Program} {W : World} {name : String} {k : IntKind} {zs : List Int} {g : Nat} {cs : Array Value} (h : Lib.TabIs P W name k zs) (hg : P.globalNamed name = some g) (hc : cs = (zs.map (Value.int k)).toArray) : Glob W g cs := by
  subst hc
  unfold Lib.TabIs World.var? at h
  rw [hg] at h
  simp only [Option.bind_some] at h
  split at h
  · rename_i cs tt fr he
    injection h with h
    exact ⟨tt, fr, by rw [he, h]⟩
  · cases h
end Go.Proofs.YtollifnnpihfdaaDoor

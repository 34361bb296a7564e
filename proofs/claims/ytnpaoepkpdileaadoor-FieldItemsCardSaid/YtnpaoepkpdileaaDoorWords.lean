/- Words of the call's own, and the text that they make with a space between. -/
import Derived.Test.YtnpaoepkpdileaaDoorStrs
import Derived.Test.YtnpaoepkpdileaaDoorShelf
import Derived.OwnWalk
import Derived.Lib.Join
namespace Go.Proofs.YtnpaoepkpdileaaDoor
open Go.RowKit
theorem Tryd.infoS : (Tryd.prog.info? 9).map (fun i => (i.zero, i.size, i.bytes)) = some (some (.string ⟨#[]⟩), 1, 16) := by kernel_rfl
/-- The slice v owns the strings L. -/
def OwnS (w : World) (base : Nat) (v : Value) (L : List ByteArray) : Prop := w.ownsRow base 9 1 v L.length (L.map Value.string)
theorem OwnS.out {w : World} {base : Nat} {v : Value} {L : List ByteArray} (h : OwnS w base v L) : w.ownsRow base 9 1 v L.length (L.map Value.string) := h
theorem OwnS.nil (w : World) (base : Nat) : OwnS w base (.slice none 0 0) [] := World.ownsRow_nil _ _ _ _
theorem OwnS.alloc {w : World} {base : Nat} {v : Value} {L : List ByteArray} (h : OwnS w base v L) (o : Obj) : OwnS (w.alloc o) base v L := World.ownsRow.alloc h o
theorem OwnS.below {w w' : World} {base : Nat} {v : Value} {L : List ByteArray} (h : OwnS w base v L) (hb : Below w.heap.size w w') : OwnS w' base v L :=
  World.ownsRow.kept (row := none) h ⟨hb.os, hb.tape, hb.output, hb.size, fun i hi _ => hb.block i hi⟩ (by
    cases hv : v.ownBlock with
    | none => exact .inl rfl
    | some k => exact .inr (by simp))
theorem OwnS.one (w : World) {base : Nat} (hb : base ≤ w.heap.size) (x : ByteArray) : OwnS (w.alloc (.cells #[.string x] 9)) base (.slice (some ⟨w.heap.size, 0, none⟩) 1 1) [x] :=
  World.ownsRow_lit w #[.string x] 1 hb (by unfold maxLen; omega) rfl
theorem OwnS.snoc {w : World} {base n : Nat} {v : Value} {L : List ByteArray} {x : ByteArray} {xs : List Value} (h : w.ownsRow base 9 1 v n xs) (hn : n = L.length + 1) (hx : xs = L.map Value.string ++ [.string x]) : OwnS w base v (L ++ [x]) := by
  subst hn hx
  show w.ownsRow base 9 1 v (L ++ [x]).length ((L ++ [x]).map Value.string)
  simpa using h
/-- A text made of words. -/
def catW (s : ByteArray) (ts : List ByteArray) : ByteArray := ts.foldl (fun s t => s ++ (⟨#[32]⟩ ++ t)) s
theorem catW_snoc (s : ByteArray) (ts : List ByteArray) (t : ByteArray) : catW s (ts ++ [t]) = catW s ts ++ (⟨#[32]⟩ ++ t) := by simp [catW, List.foldl_append]
theorem catW_cons (s t : ByteArray) (ts : List ByteArray) : catW s (t :: ts) = catW (s ++ (⟨#[32]⟩ ++ t)) ts := rfl
theorem catW_list : ∀ (ts : List ByteArray) (s : ByteArray), (catW s ts).data.toList = s.data.toList ++ Lib.joinTail [32] (ts.map (·.data.toList))
  | [], s => by simp [catW, Lib.joinTail]
  | t :: ts, s => by
    rw [catW_cons, catW_list ts]
    simp [Lib.joinTail]
theorem catW_size (M : Nat) : ∀ (ts : List ByteArray) (s : ByteArray), (∀ t ∈ ts, t.size ≤ M) → (catW s ts).size ≤ s.size + ts.length * (M + 1)
  | [], s, _ => by simp [catW]
  | t :: ts, s, h => by
    rw [catW_cons]
    have h1 := catW_size M ts (s ++ (⟨#[32]⟩ ++ t)) (fun x hx => h x (List.mem_cons_of_mem _ hx))
    have h2 := h t List.mem_cons_self
    have e : (s ++ ((⟨#[32]⟩ : ByteArray) ++ t)).size = s.size + (1 + t.size) := by rw [ByteArray.size_append, ByteArray.size_append]; rfl
    rw [e] at h1
    rw [List.length_cons, Nat.add_mul]
    omega
theorem catW_join (x : ByteArray) (L : List ByteArray) : (⟨(Lib.join ((x :: L).map (·.data.toList)) [32]).toArray⟩ : ByteArray) = catW x L := by
  apply ByteArray.ext
  apply Array.toList_inj.1
  rw [List.map_cons, Lib.join_cons, catW_list]
end Go.Proofs.YtnpaoepkpdileaaDoor

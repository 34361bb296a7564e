/- The source of numbers of package kauditmake: Range, Pick, Word. -/
import Derived.Test.YtollifnnpihfdaaDoorSrc
namespace Go.Proofs.YtollifnnpihfdaaDoor
open Go.RowKit
/-- A row of strings of at most m bytes; a row of numbers from lo to hi. -/
def strsLe (cs : Array Value) (m : Nat) : Bool := cs.toList.all fun | .string x => decide (x.size ≤ m) | _ => false
def intsIn (cs : Array Value) (lo hi : Int) : Bool := cs.toList.all fun | .int .i64 x => decide (lo ≤ x) && decide (x ≤ hi) | _ => false
theorem strsLe_at {cs : Array Value} {m : Nat} (h : strsLe cs m = true) (k : Nat) (hk : k < cs.size) : ∃ x : ByteArray, cs[k]? = some (.string x) ∧ x.size ≤ m := by
  have hm : cs[k] ∈ cs.toList := Array.mem_toList_iff.2 (Array.getElem_mem hk)
  have := List.all_eq_true.1 h _ hm
  split at this
  · rename_i x e
    exact ⟨x, by rw [Array.getElem?_eq_getElem hk, e], by simpa using this⟩
  · cases this
theorem intsIn_at {cs : Array Value} {lo hi : Int} (h : intsIn cs lo hi = true) (k : Nat) (hk : k < cs.size) : ∃ x : Int, cs[k]? = some (.int .i64 x) ∧ lo ≤ x ∧ x ≤ hi := by
  have hm : cs[k] ∈ cs.toList := Array.mem_toList_iff.2 (Array.getElem_mem hk)
  have := List.all_eq_true.1 h _ hm
  split at this
  · rename_i x e
    simp at this
    exact ⟨x, by rw [Array.getElem?_eq_getElem hk, e], this.1, this.2⟩
  · cases this
def SPost (w : World) (base g : Nat) (b : Int) (m : Nat) (e : Ending) (w' : World) : Prop := ∃ x : ByteArray, e = .returned (.string x) ∧ x.size ≤ m ∧ SrcOk w' base g b ∧ w.grownBy w' (some g)
def IPost (w : World) (base g : Nat) (b lo hi : Int) (e : Ending) (w' : World) : Prop := ∃ x : Int, e = .returned (.int .i64 x) ∧ lo ≤ x ∧ x ≤ hi ∧ SrcOk w' base g b ∧ w.grownBy w' (some g)
theorem only_cell {w w' : World} {g B : Nat} {cs : Array Value} {t : TypeId} {fr : Nat × Nat} (hg : w.grownBy w' (some g)) (hB : w.heap[B]? = some (.cells cs t fr)) (hne : B ≠ g) (k : Nat) : w'.cell? ⟨B, k, none⟩ = cs[k]? :=
  cell_of_row w' B k cs t fr ((hg.block B (Array.getElem?_eq_some_iff.1 hB).1 (fun e => hne (by injection e))).trans hB)
set_option maxHeartbeats 400000 in
theorem src_range (w : World) (base g : Nat) (b lo hi : Int) (h : SrcOk w base g b) (hb : b ≤ 1000000000000000) (h1 : lo ≤ hi) (h2 : -1000000 ≤ lo) (h3 : hi ≤ 1000000) :
    Calls Tryd.prog 12 #[.pointer (some ⟨g, 0, none⟩), .int .i64 lo, .int .i64 hi] w (IPost w base g (b + 1) lo hi) := by
  have H := Lib.hid h
  have HB := Lib.hid hb
  clear h hb
  go_enter Tryd.func12, Tryd.ntmps12
  go_wp2_with fail
  refine (src_n _ base g b _ H.out HB.out (by omega) (by omega)).mono ?_
  rintro e w1 ⟨x, rfl, hx0, hx1, hs, hg⟩
  have HS := Lib.hid hs
  clear hs
  go_wp2_with fail
  go_ret
  exact ⟨_, rfl, by omega, by omega, HS.out, hg⟩
set_option maxHeartbeats 400000 in
theorem src_word (w : World) (base g B : Nat) (b : Int) (n m : Nat) (cs : Array Value) (t : TypeId) (fr : Nat × Nat) (h : SrcOk w base g b) (hb : b ≤ 1000000000000000) (hB : w.heap[B]? = some (.cells cs t fr)) (hne : B ≠ g)
    (hn : cs.size = n) (h1 : 1 ≤ n) (h2 : n ≤ 1000) (hall : strsLe cs m = true) :
    Calls Tryd.prog 16 #[.pointer (some ⟨g, 0, none⟩), .slice (some ⟨B, 0, none⟩) n n] w (SPost w base g (b + 1) m) := by
  have H := Lib.hid h
  have HB := Lib.hid hb
  have HBB := Lib.hid hB
  have HN := Lib.hid hn
  clear h hb hB hn
  go_enter Tryd.func16, Tryd.ntmps16
  go_wp2_with fail
  refine (src_n _ base g b _ H.out HB.out (by omega) (by omega)).mono ?_
  rintro e w1 ⟨x, rfl, hx0, hx1, hs, hg⟩
  have HS := Lib.hid hs
  clear hs
  obtain ⟨k, rfl⟩ := Int.eq_ofNat_of_zero_le hx0
  have hk : k < n := by omega
  obtain ⟨y, hy, hym⟩ := strsLe_at hall k (by rw [HN.out]; exact hk)
  have hc := (only_cell hg HBB.out hne k).trans hy
  clear hy
  go_wp2_with fail
  go_ret
  exact ⟨_, rfl, hym, HS.out, hg⟩
set_option maxHeartbeats 400000 in
theorem src_pick (w : World) (base g B : Nat) (b : Int) (n : Nat) (lo hi : Int) (cs : Array Value) (t : TypeId) (fr : Nat × Nat) (h : SrcOk w base g b) (hb : b ≤ 1000000000000000) (hB : w.heap[B]? = some (.cells cs t fr)) (hne : B ≠ g)
    (hn : cs.size = n) (h1 : 1 ≤ n) (h2 : n ≤ 1000) (hall : intsIn cs lo hi = true) :
    Calls Tryd.prog 10 #[.pointer (some ⟨g, 0, none⟩), .slice (some ⟨B, 0, none⟩) n n] w (IPost w base g (b + 1) lo hi) := by
  have H := Lib.hid h
  have HB := Lib.hid hb
  have HBB := Lib.hid hB
  have HN := Lib.hid hn
  clear h hb hB hn
  go_enter Tryd.func10, Tryd.ntmps10
  go_wp2_with fail
  refine (src_n _ base g b _ H.out HB.out (by omega) (by omega)).mono ?_
  rintro e w1 ⟨x, rfl, hx0, hx1, hs, hg⟩
  have HS := Lib.hid hs
  clear hs
  obtain ⟨k, rfl⟩ := Int.eq_ofNat_of_zero_le hx0
  have hk : k < n := by omega
  obtain ⟨y, hy, hy0, hy1⟩ := intsIn_at hall k (by rw [HN.out]; exact hk)
  have hc := (only_cell hg HBB.out hne k).trans hy
  clear hy
  go_wp2_with fail
  go_ret
  exact ⟨_, rfl, hy0, hy1, HS.out, hg⟩
end Go.Proofs.YtollifnnpihfdaaDoor

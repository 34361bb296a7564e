/- The walk of kauditref01.Cut: it returns the pieces of a text that is cut at each byte c, in a slice of its own. -/
import Derived.Test.YtllomoplpoeggaaDoorCutPlain
import Derived.Test.YtllomoplpoeggaaDoorAppS
import Derived.Test.YtllomoplpoeggaaDoorPlain
import Derived.Test.YtllomoplpoeggaaDoorBlk
namespace Go.Proofs.YtllomoplpoeggaaDoor
open Go.RowKit
theorem one_new (w : World) (x : ByteArray) (t : TypeId) : StrsAt (w.alloc (.cells #[.string x] t)) (w.heap.size + 1) (some ⟨w.heap.size, 0, none⟩) [x] := fun k hk => by
  have hk : k = 0 := by simp at hk; omega
  subst hk
  exact ⟨_, rfl, by show w.heap.size < _; omega, by show World.cell? _ ⟨w.heap.size, 0, none⟩ = _; rw [(Blk.new w #[.string x] t).cell]; rfl⟩
def CutPost (c : UInt8) (s : ByteArray) (w : World) (e : Ending) (w' : World) : Prop := ∃ (v : Value) (L : List ByteArray), e = .returned v ∧ IsW c s L ∧ OwnS w' w.heap.size v L ∧ Below w.heap.size w w'
theorem OwnS.grownBelow {w w1 wr w2 : World} {v v' : Value} {L L' : List ByteArray} (ho : OwnS w1 w.heap.size v L) (hb : Below w.heap.size w wr) {o : Obj} (hw : w1 = wr.alloc o) (hg : w1.grownBy w2 v.ownBlock) (_h : OwnS w2 w.heap.size v' L') : Below w.heap.size w w2 := by
  subst hw
  have h1 := hb.alloc hb.size o
  exact h1.grown hg (by have := hb.size; simp; omega) (fun r hr => ho.ge r hr)
set_option maxRecDepth 100000 in
set_option maxHeartbeats 1000000 in
theorem rcut (s : ByteArray) (c : UInt8) (n : Int) (hn : (c.toNat : Int) = n) (w : World) (hs : s.size ≤ 100000) :
    Calls Tryd.prog 34 #[.string s, .int .u8 n] w (CutPost c s w) := by
  have HN := Lib.hid hn
  have hnb : 0 ≤ n ∧ n ≤ 255 := by have := c.toNat_lt; omega
  obtain ⟨hn0, hn1⟩ := hnb
  clear hn
  go_enter Tryd.func34, Tryd.ntmps34
  go_wp2_with fail
  go_loopw [5, 6, 7] (fun v m i wr => ∃ (D : List ByteArray) (mk ik : Nat), m = .int .i64 (mk : Int) ∧ i = .int .i64 (ik : Int) ∧ CutSt c s D mk ik ∧ OwnS wr w.heap.size v D ∧ Below w.heap.size w wr) (fun _ _ i _ => s.size - (intOf i).toNat)
  case atStart => exact ⟨[], 0, 0, rfl, rfl, CutSt.start c s, OwnS.nil _ _, Below.refl _ _⟩
  case round =>
    obtain ⟨D, mk, ik, rfl, rfl, hst, hown, hb⟩ := hrel
    have h1 := hst.le
    have h2 := hst.top
    have h3 := hst.count
    have HST := Lib.hid hst
    clear hst
    by_cases hlt : ik < s.size
    · by_cases hc : s[ik] = c
      · have t1 : ((s[ik].toNat : Int) == n) = true := by rw [hc, HN.out]; simp
        have HC := Lib.hid (HST.out.cut hlt hc)
        clear hc
        go_wp2_with (at_builtin; refine wpList_append_strs rfl (.tmp 19) (.tmp 24) rfl w.heap.size _ D rfl (hown.alloc _) (wr.heap.size + 1) (some ⟨wr.heap.size, 0, none⟩) 1 1 [s.extract mk ik] rfl rfl (one_new wr _ 9) (by simp; omega) (by have := hb.size; simp; omega) ?_; intro v4 w4 own4 hg4 hat4)
        have hb4 := OwnS.grownBelow (hown.alloc _) hb rfl hg4 own4
        clear hg4 hat4 hb hown
        go_wp2_with fail
        go_roundw
        case rel => exact ⟨D ++ [s.extract mk ik], ik + 1, ik + 1, by go_num, by go_num, HC.out, own4, hb4⟩
        case measure => simp [intOf]; omega
      · have t1 : ((s[ik].toNat : Int) == n) = false := by
          rw [← HN.out]
          simp only [beq_eq_false_iff_ne, ne_eq]
          intro e
          exact hc (UInt8.toNat_inj.1 (by omega))
        have HC := Lib.hid (HST.out.next hlt hc)
        clear hc
        go_wp2_with fail
        go_roundw
        case rel => exact ⟨D, mk, ik + 1, rfl, by go_num, HC.out, hown, hb⟩
        case measure => simp [intOf]; omega
    · obtain rfl : ik = s.size := by omega
      go_wp2_with (at_builtin; refine wpList_append_strs rfl (.tmp 28) (.tmp 32) rfl w.heap.size _ D rfl (hown.alloc _) (wr.heap.size + 1) (some ⟨wr.heap.size, 0, none⟩) 1 1 [s.extract mk s.size] rfl rfl (one_new wr _ 9) (by simp; omega) (by have := hb.size; simp; omega) ?_; intro v4 w4 own4 hg4 hat4)
      have hb4 := OwnS.grownBelow (hown.alloc _) hb rfl hg4 own4
      clear hg4 hat4 hb hown
      go_wp2_with fail
      go_ret
      exact ⟨_, _, rfl, HST.out.done, own4, hb4⟩
end Go.Proofs.YtllomoplpoeggaaDoor

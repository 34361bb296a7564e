/- The walk of the law ValueLimits. -/
import Derived.Test.YthidojkckhjciaaDoorUnquotes
import Derived.Laws.OwnMore
namespace Go.Proofs.YthidojkckhjciaaDoor
open Go.RowKit
theorem own_below {w w' : World} {base size n : Nat} {e : TypeId} {v : Value} {xs : List Value} (h : w.ownsRow base e size v n xs) (hb : Below w.heap.size w w') : w'.ownsRow base e size v n xs :=
  h.kept (row := none) ⟨hb.os, hb.tape, hb.output, hb.size, fun i hi _ => hb.block i hi⟩ (by cases v.ownBlock <;> simp)
/-- A row that has been filled with one value. -/
theorem filled {xs : List Value} {n : Nat} {u : Value} (hl : xs.length = n) (h : ∀ j, j < n → xs[j]? = some u) : xs = List.replicate n u := by
  apply List.ext_getElem?
  intro i
  by_cases hi : i < n
  · rw [h i hi, List.getElem?_replicate, if_pos hi]
  · rw [List.getElem?_eq_none (by omega), List.getElem?_eq_none (by simp; omega)]
theorem set_next {xs : List Value} {k n : Nat} {u : Value} (hl : xs.length = n) (hk : k < n) (h : ∀ j, j < k → xs[j]? = some u) : ∀ j, j < k + 1 → (xs.set k u)[j]? = some u := by
  intro j hj
  rw [List.getElem?_set]
  by_cases e : k = j
  · rw [if_pos e, if_pos (by omega)]
  · rw [if_neg e]; exact h j (by omega)
def repS (m : Nat) (c : UInt8) : ByteArray := ⟨(List.replicate m c).toArray⟩
theorem repS_size (m : Nat) (c : UInt8) : (repS m c).size = m := by show (List.replicate m c).toArray.size = m; simp
theorem quoteL_length (l : List UInt8) : (quoteL l).length = l.length + 2 ∨ (quoteL l).length = 2 * l.length + 1 := by
  unfold quoteL; split
  · left; simp
  · right; simp [hexL_length]
theorem quoteS_size (t : ByteArray) (h : t.size ≤ 640) : (quoteS t).size = t.size + 2 ∨ (quoteS t).size = 2 * t.size + 1 := by
  have e : (quoteS t).size = (quoteL t.data.toList).length := by rw [← quoteS_list t h, Array.length_toList]; rfl
  have e2 : t.data.toList.length = t.size := Array.length_toList
  rw [e, ← e2]; exact quoteL_length _
theorem unq_quote (t : ByteArray) (h : t.size ≤ 640) : unqS (quoteS t) = t ∧ unqE (quoteS t) = 0 := by
  have e2 : t.data.toList.length = t.size := Array.length_toList
  have : unqO (quoteS t).data.toList = some t.data.toList := by rw [quoteS_list t h]; exact unqO_of ⟨rfl, by omega⟩
  exact ⟨by rw [unqS_some this], unqE_some this⟩
set_option maxRecDepth 100000 in
set_option maxHeartbeats 2000000 in
theorem valueLimits_walk (x : Int) (c : UInt8) (w : World) (hx : 0 ≤ x ∧ x ≤ 255) (ht : Tab w) : Calls Tryd.prog 5 #[.int .u8 x, bv c] w fun e w' => e = .returned (.bool true) ∧ Below w.heap.size w w' := by
  obtain ⟨x0, x1⟩ := hx
  obtain ⟨i0, hi, hz0, hz1, hz2⟩ := info_parts Tryd.info5
  obtain ⟨m, hm⟩ : ∃ m : Nat, (m : Int) = 638 + x % 5 := ⟨(638 + x % 5).toNat, by omega⟩
  have hm0 : 638 ≤ m := by omega
  have hm1 : m ≤ 642 := by omega
  have HM := Lib.hid hm
  clear hm
  go_enter Tryd.func5, Tryd.ntmps5
  go_wp2_with (at_make; refine wpList_make_full _ rfl _ _ 28 rfl w.heap.size 5 i0 _ 1 Tryd.underlying28 hi hz0 hz1 _ _ _ _ m rfl rfl HM.out.symm HM.out.symm (by rw [hz2]; omega) (by unfold maxLen; omega) (Nat.le_refl _) ?_; intro w1 hown1 hg1)
  have hb1 : Below w.heap.size w w1 := (Below.refl _ _).grown hg1 (Nat.le_refl _) (by simp)
  clear hg1
  go_loopw [6] (fun y wr => ∃ (k : Nat) (xs : List Value), k ≤ m ∧ y = .int .i64 (k : Int) ∧ Below w.heap.size w wr ∧ wr.ownsRow w.heap.size 5 1 (.slice (some ⟨w.heap.size, 0, none⟩) m m) m xs ∧ Hid (xs.length = m ∧ ∀ j, j < k → xs[j]? = some (bv c))) (fun i _ => m - (intOf i).toNat)
  case atStart => exact ⟨0, _, by omega, rfl, hb1, hown1, by have := hown1.1; omega, fun j hj => by omega⟩
  case round =>
    obtain ⟨k, xs, hk, rfl, hb, hown, hxs⟩ := hrel
    clear hown1 hb1
    by_cases hlt : k < m
    · have hc : wr.cell? ⟨w.heap.size, k, none⟩ = some (xs[k]'(by have := hxs.out.1; omega)) := by
        rw [hown.cellAt k (by omega), List.getElem?_eq_getElem]
      have hf := hown.frozenAt k
      have hst := hown.stored k (bv c)
      have HST := Lib.hid hst
      clear hst
      go_wp2_with fail
      go_roundw
      case rel => exact ⟨k + 1, xs.set k (bv c), by omega, by go_num, hb.setCell (p := ⟨w.heap.size, k, none⟩) (Nat.le_refl _) _, HST.out.1, by simpa using hxs.out.1, set_next hxs.out.1 hlt hxs.out.2⟩
      case measure => simp [intOf]; omega
    · obtain rfl : k = m := by omega
      have hrep : xs = (List.replicate k c).map bv := by rw [List.map_replicate]; exact filled hxs.out.1 hxs.out.2
      rw [hrep] at hown
      have hcv : (convert 28 9 (.slice (some ⟨w.heap.size, 0, none⟩) k k)).run Tryd.prog wr = .ok (.string (repS k c)) wr := conv_own hown Tryd.underlying28 Tryd.underlying5 Tryd.underlying9
      have hsz := repS_size k c
      have HSZ := Lib.hid hsz
      have htr := ht.below hb (Nat.le_refl _)
      clear hxs hrep
      by_cases hbig : k ≤ 640
      · obtain ⟨u1, u2⟩ := unq_quote (repS k c) (by omega)
        have U1 := Lib.hid u1
        have U2 := Lib.hid u2
        have hE := Lib.hid (quoteE_zero.2 (show (repS k c).size ≤ 640 by omega))
        have hQ := quoteS_size (repS k c) (by omega)
        rw [hsz] at hQ
        have hqb : (quoteS (repS k c)).size ≤ 1300 := by omega
        clear u1 u2 hsz
        go_wp2_with fail
        refine (vquote _ _ (by rw [HSZ.out]; unfold maxLen; omega) htr).mono ?_
        rintro e w2 ⟨rfl, hb2⟩
        rw [hE.out]
        have htr2 := htr.below hb2 (Nat.le_refl _)
        clear hcv
        go_wp2_with fail
        refine (vunquote _ _ (by omega) htr2).mono ?_
        rintro e w3 ⟨rfl, hb3⟩
        rw [U1.out, U2.out]
        have hb23 := below_then hb2 hb3
        have hown3 := own_below hown hb23
        have hcv3 : (convert 28 9 (.slice (some ⟨w.heap.size, 0, none⟩) k k)).run Tryd.prog w3 = .ok (.string (repS k c)) w3 := conv_own hown3 Tryd.underlying28 Tryd.underlying5 Tryd.underlying9
        have htr3 := htr2.below hb3 (Nat.le_refl _)
        clear hown hown3
        rcases hQ with hQ | hQ
        · have hQ1 : (((quoteS (repS k c)).size : Int) == (k : Int) + 2) = true := by simp; omega
          clear hQ
          go_wp2_with fail
          refine (awake_true _ htr3).mono ?_
          rintro e w4 ⟨rfl, hb4⟩
          go_wp2_with fail
          go_ret
          exact ⟨rfl, hb.trans ((below_then hb23 hb4).mono hb.size)⟩
        · have hQ1 : (((quoteS (repS k c)).size : Int) == (k : Int) + 2) = false := by simp; omega
          have hQ2 : (((quoteS (repS k c)).size : Int) == 2 * (k : Int) + 1) = true := by simp; omega
          clear hQ
          go_wp2_with fail
          refine (awake_true _ htr3).mono ?_
          rintro e w4 ⟨rfl, hb4⟩
          go_wp2_with fail
          go_ret
          exact ⟨rfl, hb.trans ((below_then hb23 hb4).mono hb.size)⟩
      · have HE := Lib.hid (show quoteE (repS k c) = 20 from if_pos (by omega))
        have HQ := Lib.hid (show quoteS (repS k c) = ⟨#[]⟩ from if_pos (by omega))
        clear hsz
        go_wp2_with fail
        refine (vquote _ _ (by rw [HSZ.out]; unfold maxLen; omega) htr).mono ?_
        rintro e w2 ⟨rfl, hb2⟩
        rw [HE.out, HQ.out]
        have htr2 := htr.below hb2 (Nat.le_refl _)
        clear hcv
        go_wp2_with fail
        refine (awake_true _ htr2).mono ?_
        rintro e w4 ⟨rfl, hb4⟩
        go_wp2_with fail
        go_ret
        exact ⟨rfl, hb.trans ((below_then hb2 hb4).mono hb.size)⟩
end Go.Proofs.YthidojkckhjciaaDoor

/- The listed table of calls; a call that came in. -/
import Derived.Test.YtokkbboahajbhaaDoorRows
import Derived.Test.YtokkbboahajbhaaDoorLaidRows
import Derived.Test.YtokkbboahajbhaaDoorCallChecks
import Derived.SliceStrings
import Derived.Laws.IdiomArrays
namespace Go.Proofs.YtokkbboahajbhaaDoor
open Go.ChangeShapes Go.WideShapes Go.RowKit Go.Joins Go.Deep
theorem cells_of_row (w : World) (i : Nat) (hi : i < (rowsC.map (CRow.cells .u8)).length) (m : Nat) (cs' : List Value) (d : DataW Unit) (q : List MemPlace) (ds : List (DataW Unit)) (hds : DataW.agg ds = Rows.laid_kaudit_call_calls) (hd : ds[i]? = some d) (ht : DataW.trod (fun _ => ()) Tryd.prog w 0 (fun _ => true) false m 63 cs' = some (d, q)) : cs' = (rowsC.map (CRow.cells .u8))[i] := by
  have H : ∀ k : Fin 22, ds[k.val]? = some d → cs' = (rowsC.map (CRow.cells .u8))[k.val]'(by have : (rowsC.map (CRow.cells .u8)).length = 22 := rfl; omega) := by
    unfold Rows.laid_kaudit_call_calls at hds
    injection hds with hds
    subst hds
    intro k hd
    match k with
    | ⟨0, _⟩ => exact row5_cells Tryd.underlying63 (by kernel_rfl) (by kernel_rfl) Tryd.underlying9 Tryd.underlying5 Tryd.underlying5 Tryd.underlying5 Tryd.underlying5 (by cases hd; exact ht)
    | ⟨1, _⟩ => exact row5_cells Tryd.underlying63 (by kernel_rfl) (by kernel_rfl) Tryd.underlying9 Tryd.underlying5 Tryd.underlying5 Tryd.underlying5 Tryd.underlying5 (by cases hd; exact ht)
    | ⟨2, _⟩ => exact row5_cells Tryd.underlying63 (by kernel_rfl) (by kernel_rfl) Tryd.underlying9 Tryd.underlying5 Tryd.underlying5 Tryd.underlying5 Tryd.underlying5 (by cases hd; exact ht)
    | ⟨3, _⟩ => exact row5_cells Tryd.underlying63 (by kernel_rfl) (by kernel_rfl) Tryd.underlying9 Tryd.underlying5 Tryd.underlying5 Tryd.underlying5 Tryd.underlying5 (by cases hd; exact ht)
    | ⟨4, _⟩ => exact row5_cells Tryd.underlying63 (by kernel_rfl) (by kernel_rfl) Tryd.underlying9 Tryd.underlying5 Tryd.underlying5 Tryd.underlying5 Tryd.underlying5 (by cases hd; exact ht)
    | ⟨5, _⟩ => exact row5_cells Tryd.underlying63 (by kernel_rfl) (by kernel_rfl) Tryd.underlying9 Tryd.underlying5 Tryd.underlying5 Tryd.underlying5 Tryd.underlying5 (by cases hd; exact ht)
    | ⟨6, _⟩ => exact row5_cells Tryd.underlying63 (by kernel_rfl) (by kernel_rfl) Tryd.underlying9 Tryd.underlying5 Tryd.underlying5 Tryd.underlying5 Tryd.underlying5 (by cases hd; exact ht)
    | ⟨7, _⟩ => exact row5_cells Tryd.underlying63 (by kernel_rfl) (by kernel_rfl) Tryd.underlying9 Tryd.underlying5 Tryd.underlying5 Tryd.underlying5 Tryd.underlying5 (by cases hd; exact ht)
    | ⟨8, _⟩ => exact row5_cells Tryd.underlying63 (by kernel_rfl) (by kernel_rfl) Tryd.underlying9 Tryd.underlying5 Tryd.underlying5 Tryd.underlying5 Tryd.underlying5 (by cases hd; exact ht)
    | ⟨9, _⟩ => exact row5_cells Tryd.underlying63 (by kernel_rfl) (by kernel_rfl) Tryd.underlying9 Tryd.underlying5 Tryd.underlying5 Tryd.underlying5 Tryd.underlying5 (by cases hd; exact ht)
    | ⟨10, _⟩ => exact row5_cells Tryd.underlying63 (by kernel_rfl) (by kernel_rfl) Tryd.underlying9 Tryd.underlying5 Tryd.underlying5 Tryd.underlying5 Tryd.underlying5 (by cases hd; exact ht)
    | ⟨11, _⟩ => exact row5_cells Tryd.underlying63 (by kernel_rfl) (by kernel_rfl) Tryd.underlying9 Tryd.underlying5 Tryd.underlying5 Tryd.underlying5 Tryd.underlying5 (by cases hd; exact ht)
    | ⟨12, _⟩ => exact row5_cells Tryd.underlying63 (by kernel_rfl) (by kernel_rfl) Tryd.underlying9 Tryd.underlying5 Tryd.underlying5 Tryd.underlying5 Tryd.underlying5 (by cases hd; exact ht)
    | ⟨13, _⟩ => exact row5_cells Tryd.underlying63 (by kernel_rfl) (by kernel_rfl) Tryd.underlying9 Tryd.underlying5 Tryd.underlying5 Tryd.underlying5 Tryd.underlying5 (by cases hd; exact ht)
    | ⟨14, _⟩ => exact row5_cells Tryd.underlying63 (by kernel_rfl) (by kernel_rfl) Tryd.underlying9 Tryd.underlying5 Tryd.underlying5 Tryd.underlying5 Tryd.underlying5 (by cases hd; exact ht)
    | ⟨15, _⟩ => exact row5_cells Tryd.underlying63 (by kernel_rfl) (by kernel_rfl) Tryd.underlying9 Tryd.underlying5 Tryd.underlying5 Tryd.underlying5 Tryd.underlying5 (by cases hd; exact ht)
    | ⟨16, _⟩ => exact row5_cells Tryd.underlying63 (by kernel_rfl) (by kernel_rfl) Tryd.underlying9 Tryd.underlying5 Tryd.underlying5 Tryd.underlying5 Tryd.underlying5 (by cases hd; exact ht)
    | ⟨17, _⟩ => exact row5_cells Tryd.underlying63 (by kernel_rfl) (by kernel_rfl) Tryd.underlying9 Tryd.underlying5 Tryd.underlying5 Tryd.underlying5 Tryd.underlying5 (by cases hd; exact ht)
    | ⟨18, _⟩ => exact row5_cells Tryd.underlying63 (by kernel_rfl) (by kernel_rfl) Tryd.underlying9 Tryd.underlying5 Tryd.underlying5 Tryd.underlying5 Tryd.underlying5 (by cases hd; exact ht)
    | ⟨19, _⟩ => exact row5_cells Tryd.underlying63 (by kernel_rfl) (by kernel_rfl) Tryd.underlying9 Tryd.underlying5 Tryd.underlying5 Tryd.underlying5 Tryd.underlying5 (by cases hd; exact ht)
    | ⟨20, _⟩ => exact row5_cells Tryd.underlying63 (by kernel_rfl) (by kernel_rfl) Tryd.underlying9 Tryd.underlying5 Tryd.underlying5 Tryd.underlying5 Tryd.underlying5 (by cases hd; exact ht)
    | ⟨21, _⟩ => exact row5_cells Tryd.underlying63 (by kernel_rfl) (by kernel_rfl) Tryd.underlying9 Tryd.underlying5 Tryd.underlying5 Tryd.underlying5 Tryd.underlying5 (by cases hd; exact ht)
    | ⟨k + 22, h⟩ => exact absurd h (by omega)
  exact H ⟨i, hi⟩ hd
theorem calls_of_laid {W : World} {laid : List (String × DataW Unit)} (i : Nat) (hpl : (laid.all fun x => x.2.handleName?.isNone) = true) (h : laidMetH Tryd.prog laid W) (hi : laid[i]? = some ("kaudit/call.calls", Rows.laid_kaudit_call_calls)) : Calls10 W :=
  glob_of_laid (t := 64) (e := 63) (c := 5) (n := 22) (L := rowsC.map (CRow.cells .u8)) i hpl h hi rfl (by kernel_rfl) Tryd.underlying64 (by kernel_rfl) (by kernel_rfl) rfl rfl (fun w i hi m cs' d q hd ht => cells_of_row w i hi m cs' d q _ rfl hd ht)
section
variable {H : Type} {enc : TypeId × Value → H} {P : Program}
theorem strs_of_trod {W : World} {n : Nat} {t e : TypeId} {v : Value} {y : DataW H × List MemPlace} (ht : P.underlying t = some (.slice e)) (he : P.underlying e = some .string) (hc : P.cellsOf e = 1)
    (h : DataW.trod enc P W 0 (fun _ => true) true n t [v] = some y) (hlt : ∀ x ∈ y.2, x.block < W.heap.size) :
    ∃ (A : Option Addr) (c : Nat) (ss : List ByteArray), v = .slice A ss.length c ∧ ss.length ≤ maxLen ∧ StrsAt W W.heap.size A ss ∧ ∀ s ∈ ss, s.size ≤ maxLen := by
  rcases open_strings ht he hc h with ⟨hcs, hx⟩ | ⟨a, len, cap, zs, hcs, _, hl, hm, hz, hx, hcell, hwz⟩
  · injection hcs with hv
    exact ⟨none, 0, [], hv, by simp, StrsAt.nil, by simp⟩
  · injection hcs with hv
    simp only [if_true] at hz
    have hlz : (zs.take len).length = len := by rw [List.length_take]; omega
    refine ⟨some a, cap, zs.take len, by rw [hlz]; exact hv, by rw [hlz]; omega, fun k hk => ?_, fun z hz' => hwz z (List.mem_of_mem_take hz')⟩
    have hkz : k < zs.length := by rw [hlz] at hk; omega
    refine ⟨a, rfl, ?_, ?_⟩
    · have hmem : MemPlace.cell a.block (a.off + 0) ∈ y.2 := by
        rw [hx]; show _ ∈ MemPlace.row a zs.length; unfold MemPlace.row; simp; omega
      exact hlt _ hmem
    · rw [hcell k hkz, List.getElem_take, List.getD_eq_getElem?_getD, List.getElem?_eq_getElem hkz]; rfl
end
theorem list4 {α : Type} {l : List α} (h : l.length = 4) : ∃ c0 c1 c2 c3, l = [c0, c1, c2, c3] := by
  match l, h with
  | [c0, c1, c2, c3], _ => exact ⟨c0, c1, c2, c3, rfl⟩
theorem list7 {α : Type} {l : List α} (h : l.length = 7) : ∃ c0 c1 c2 c3 c4 c5 c6, l = [c0, c1, c2, c3, c4, c5, c6] := by
  match l, h with
  | [c0, c1, c2, c3, c4, c5, c6], _ => exact ⟨c0, c1, c2, c3, c4, c5, c6, rfl⟩
set_option maxRecDepth 100000 in
theorem call_arg {H : Type} {enc : TypeId × Value → H} {W : World} {base : Nat} {v : Value} {d : DataW H} {p : List MemPlace} (hv : Value.okWide Tryd.prog W .any base 25 v) (h : DataW.Trod enc Tryd.prog W 0 (fun _ => true) true 25 v d p) (hlt : ∀ x ∈ p, x.block < W.heap.size) :
    ∃ (z : Int) (a : Nat → Int) (P : Option Addr) (cp : Nat) (A : Option Addr) (ca : Nat) (ps gs : List ByteArray), v = callV z a P ps.length cp A gs.length ca ∧ (-9223372036854775808 ≤ z ∧ z ≤ 9223372036854775807) ∧ (∀ j, j < 4 → -9223372036854775808 ≤ a j ∧ a j ≤ 9223372036854775807) ∧
      StrsAt W W.heap.size P ps ∧ StrsAt W W.heap.size A gs ∧ ps.length ≤ maxLen ∧ gs.length ≤ maxLen ∧ (∀ s ∈ ps, s.size ≤ maxLen) ∧ ∀ s ∈ gs, s.size ≤ maxLen := by
  obtain ⟨cs, rfl, hsz⟩ := okWide_struct Tryd.underlying25 hv
  obtain ⟨l⟩ := cs
  obtain ⟨c0, c1, c2, c3, c4, c5, c6, rfl⟩ := list7 (l := l) (hsz.trans (show Tryd.prog.cellsOf 25 = 7 by kernel_rfl))
  obtain ⟨fuel, hf⟩ := h
  obtain ⟨xs, n, _, hx, _, hlen, hg⟩ := DataW.trod_struct Tryd.underlying25 hf
  obtain ⟨y0, y1, y2, y3, rfl⟩ := list4 hlen
  have g0 := field_of hg 0 3 0 1 rfl (by kernel_rfl)
  have g1 := field_of hg 1 22 1 4 rfl (by kernel_rfl)
  have g2 := field_of hg 2 23 5 1 rfl (by kernel_rfl)
  have g3 := field_of hg 3 23 6 1 rfl (by kernel_rfl)
  simp only [Prod.mk.injEq] at hx
  have hp := hx.2
  simp at hp
  simp only [Value.cells, List.drop_zero, List.drop_succ_cons, List.take_succ_cons, List.take_zero, List.getElem?_cons_zero, List.getElem?_cons_succ] at g0 g1 g2 g3
  obtain ⟨z, e0, _, w0⟩ := DataW.trod_int Tryd.underlying3 g0
  injection e0 with e0; subst e0
  obtain ⟨u0, u1, u2, u3, m, _, i0, i1, i2, i3⟩ := trod_array4 Tryd.underlying22 (by kernel_rfl) g1
  obtain ⟨a0, e0, _, v0⟩ := DataW.trod_int Tryd.underlying3 i0
  injection e0 with e0; subst e0
  obtain ⟨a1, e0, _, v1⟩ := DataW.trod_int Tryd.underlying3 i1
  injection e0 with e0; subst e0
  obtain ⟨a2, e0, _, v2⟩ := DataW.trod_int Tryd.underlying3 i2
  injection e0 with e0; subst e0
  obtain ⟨a3, e0, _, v3⟩ := DataW.trod_int Tryd.underlying3 i3
  injection e0 with e0; subst e0
  obtain ⟨P, cp, ps, rfl, lp, sp, bp⟩ := strs_of_trod Tryd.underlying23 Tryd.underlying9 (by kernel_rfl) g2 (fun x hx => hlt x (by rw [hp]; simp [hx]))
  obtain ⟨A, ca, gs, rfl, lg, sg, bg⟩ := strs_of_trod Tryd.underlying23 Tryd.underlying9 (by kernel_rfl) g3 (fun x hx => hlt x (by rw [hp]; simp [hx]))
  refine ⟨z, fun j => if j = 0 then a0 else if j = 1 then a1 else if j = 2 then a2 else a3, P, cp, A, ca, ps, gs, rfl, bounds_i64 w0, fun j _ => ?_, sp, sg, lp, lg, bp, bg⟩
  have b0 := bounds_i64 v0
  have b1 := bounds_i64 v1
  have b2 := bounds_i64 v2
  have b3 := bounds_i64 v3
  simp only
  split
  · exact b0
  · split
    · exact b1
    · split
      · exact b2
      · exact b3
end Go.Proofs.YtokkbboahajbhaaDoor

/- Listed variables: arrays of strings, arrays of rows. -/
import Derived.Test.YtollifnnpihfdaaDoorOwn
import Derived.Test.YtollifnnpihfdaaDoorFrame
import Derived.Lib.SmallJoins
namespace Go.Proofs.YtollifnnpihfdaaDoor
open Go.ChangeShapes Go.WideShapes Go.RowKit Go.Joins Go.Deep
theorem chunks {α : Type} {c : Nat} : ∀ {L : List (List α)} {cs : List α}, cs.length = L.length * c → (∀ i (hi : i < L.length), (cs.drop (i * c)).take c = L[i]) → cs = L.flatten
  | [], cs, h, _ => by simp at h; simp [h]
  | x :: L, cs, h, hi => by
    have h0 := hi 0 (by simp)
    simp at h0
    have hr : cs.drop c = L.flatten := chunks (c := c) (by rw [List.length_drop, h, List.length_cons, Nat.add_mul]; omega) (fun i hlt => by
      have := hi (i + 1) (by simp; omega)
      rw [List.drop_drop, show c + i * c = (i + 1) * c by rw [Nat.add_mul]; omega]
      simpa using this)
    rw [List.flatten_cons, ← hr, ← h0, List.take_append_drop]
section
variable {H : Type} {enc : TypeId × Value → H} {P : Program} {w : World} {base : Nat} {sp : Nat → Bool} {held : Bool}
theorem one_at {cs : List Value} {j : Nat} {v : Value} (h : (cs.drop j).take 1 = [v]) : cs[j]? = some v := by
  have := congrArg (·[0]?) h
  simpa [List.getElem?_take, List.getElem?_drop] using this
/-- A struct of a string and four integers, out of its datum. -/
theorem row5_cells {fuel : Nat} {t : TypeId} {f0 f1 f2 f3 f4 : Field} {k : IntKind} {cs : List Value} {l : List UInt8} {a b c d : Int} {p : List MemPlace} (hs : P.underlying t = some (.struct #[f0, f1, f2, f3, f4])) (hone : oneCellFields P #[f0, f1, f2, f3, f4] = true) (hC : P.cellsOf t = 5)
    (h0 : P.underlying f0.type = some .string) (h1 : P.underlying f1.type = some (.int k)) (h2 : P.underlying f2.type = some (.int k)) (h3 : P.underlying f3.type = some (.int k)) (h4 : P.underlying f4.type = some (.int k))
    (h : DataW.trod enc P w base sp held fuel t cs = some (.agg [.lit (.string l), .lit (.int k a), .lit (.int k b), .lit (.int k c), .lit (.int k d)], p)) : cs = [.string ⟨l.toArray⟩, .int k a, .int k b, .int k c, .int k d] := by
  obtain ⟨xs, n, _, hx, hl, hlen, hg⟩ := DataW.trod_struct hs h
  obtain ⟨o0, k0⟩ := hone_of hone 0 f0 rfl
  obtain ⟨o1, k1⟩ := hone_of hone 1 f1 rfl
  obtain ⟨o2, k2⟩ := hone_of hone 2 f2 rfl
  obtain ⟨o3, k3⟩ := hone_of hone 3 f3 rfl
  obtain ⟨o4, k4⟩ := hone_of hone 4 f4 rfl
  match xs, hlen with
  | [y0, y1, y2, y3, y4], _ =>
    simp only [Prod.mk.injEq] at hx
    have hx1 := hx.1
    simp at hx1
    obtain ⟨e0, e1, e2, e3, e4⟩ := hx1
    have g0 := hg 0 f0 rfl
    have g1 := hg 1 f1 rfl
    have g2 := hg 2 f2 rfl
    have g3 := hg 3 f3 rfl
    have g4 := hg 4 f4 rfl
    rw [o0, k0] at g0
    rw [o1, k1] at g1
    rw [o2, k2] at g2
    rw [o3, k3] at g3
    rw [o4, k4] at g4
    simp only [List.getElem?_cons_zero, List.getElem?_cons_succ] at g0 g1 g2 g3 g4
    obtain ⟨s, c0, z0, _⟩ := DataW.trod_string h0 g0
    obtain ⟨n1, c1, z1, _⟩ := DataW.trod_int h1 g1
    obtain ⟨n2, c2, z2, _⟩ := DataW.trod_int h2 g2
    obtain ⟨n3, c3, z3, _⟩ := DataW.trod_int h3 g3
    obtain ⟨n4, c4, z4, _⟩ := DataW.trod_int h4 g4
    rw [z0] at e0; rw [z1] at e1; rw [z2] at e2; rw [z3] at e3; rw [z4] at e4
    simp at e0 e1 e2 e3 e4
    have q0 := one_at c0
    have q1 := one_at c1
    have q2 := one_at c2
    have q3 := one_at c3
    have q4 := one_at c4
    subst e1 e2 e3 e4
    have es : s = ⟨l.toArray⟩ := by rw [e0]
    subst es
    match cs, hl.trans hC with
    | [x0, x1, x2, x3, x4], _ =>
      simp at q0 q1 q2 q3 q4
      rw [q0, q1, q2, q3, q4]
/-- An array whose elements are known, element by element. -/
theorem arr_cells {fuel n c : Nat} {t e : TypeId} {cs : List Value} {ds : List (DataW H)} {p : List MemPlace} {L : List (List Value)} (ht : P.underlying t = some (.array n e)) (hce : P.cellsOf e = c) (hct : P.cellsOf t = n * c) (hL : L.length = n)
    (h : DataW.trod enc P w base sp held fuel t cs = some (.agg ds, p))
    (hel : ∀ i (hi : i < L.length) m cs' d q, ds[i]? = some d → DataW.trod enc P w base sp held m e cs' = some (d, q) → cs' = L[i]) : cs = L.flatten := by
  obtain ⟨xs, m, _, hx, hl, hlen, hg⟩ := DataW.trod_array ht h
  simp only [Prod.mk.injEq] at hx
  have hx1 := hx.1
  simp at hx1
  refine chunks (c := c) (by rw [hl, hct, hL]) fun i hi => ?_
  have := hg i (by omega)
  rw [hce] at this
  have hxi : xs[i]? = some (xs[i]'(by omega)) := List.getElem?_eq_getElem (by omega)
  rw [hxi] at this
  exact hel i hi m _ _ _ (by rw [hx1, List.getElem?_map, hxi]; rfl) this
/-- A field of a struct that is read: its type, its offset and its number of cells. -/
theorem field_of {n : Nat} {fs : Array Field} {cs : List Value} {xs : List (DataW H × List MemPlace)} (hg : ∀ (i : Nat) (f : Field), fs[i]? = some f → DataW.trod enc P w base sp held n f.type ((cs.drop f.offset).take (P.cellsOf f.type)) = xs[i]?) (i : Nat) (ty : TypeId) (off k : Nat)
    (h : (fs[i]?).map (fun f => (f.type, f.offset)) = some (ty, off)) (hk : P.cellsOf ty = k) : DataW.trod enc P w base sp held n ty ((cs.drop off).take k) = xs[i]? := by
  cases hf : fs[i]? with
  | none => rw [hf] at h; cases h
  | some f =>
    rw [hf] at h
    simp at h
    have := hg i f hf
    rw [h.1, h.2, hk] at this
    exact this
/-- A listed array, out of the row's condition. -/
theorem glob_of_laid {P : Program} {W : World} {laid : List (String × DataW Unit)} {name : String} {ds : List (DataW Unit)} {g n c : Nat} {t e : TypeId} {L : List (List Value)} {cs : Array Value} (i : Nat)
    (hpl : (laid.all fun x => x.2.handleName?.isNone) = true) (h : laidMetH P laid W) (hi : laid[i]? = some (name, .agg ds))
    (hg : P.globalNamed name = some g) (hty : (P.globals[g]?).map (·.type) = some t) (ht : P.underlying t = some (.array n e)) (hce : P.cellsOf e = c) (hct : P.cellsOf t = n * c) (hL : L.length = n) (hcs : cs = L.flatten.toArray)
    (hel : ∀ (w : World) i (hi : i < L.length) m cs' d q, ds[i]? = some d → DataW.trod (fun _ => ()) P w 0 (fun _ => true) false m e cs' = some (d, q) → cs' = L[i]) : Glob W g cs := by
  rw [MakeChecks.laidMetH_plain _ _ _ hpl] at h
  obtain ⟨ps, hv, _⟩ := h
  obtain ⟨g', t', cs', fuel, p, hg', ht', hvar, hd⟩ := vars_at hv i name _ hi
  obtain rfl := Option.some.inj (hg.symm.trans hg')
  obtain rfl := Option.some.inj (hty.symm.trans ht')
  have hc := arr_cells ht hce hct hL hd (hel W)
  unfold World.var? at hvar
  rw [hg] at hvar
  simp only [Option.bind_some] at hvar
  split at hvar
  · rename_i cs2 tt fr he
    injection hvar with hvar
    subst hvar
    refine ⟨tt, fr, by rw [he, hcs, ← hc]⟩
  · cases hvar
end
end Go.Proofs.YtollifnnpihfdaaDoor

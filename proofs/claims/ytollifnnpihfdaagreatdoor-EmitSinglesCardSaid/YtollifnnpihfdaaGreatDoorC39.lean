/- Texts of one proof, laid together. -/
import Derived.Test.YtollifnnpihfdaaGreatDoorC01
import Derived.Test.YtollifnnpihfdaaGreatDoorC09
import Derived.Lib.SmallJoins
import Derived.Test.YtollifnnpihfdaaGreatDoorC15
import Derived.SliceStrings
import Derived.Laws.IdiomArrays
import Derived.Test.YtollifnnpihfdaaGreatDoorRows
import Derived.Test.YtollifnnpihfdaaGreatDoorC13
import Derived.Test.YtollifnnpihfdaaGreatDoorC16
import Derived.Test.YtollifnnpihfdaaGreatDoorC27
import Derived.Test.YtollifnnpihfdaaGreatDoorC38
/- Listed variables: arrays of strings, arrays of rows. -/
namespace Go.Proofs.YtollifnnpihfdaaGreatDoor
open Go.ChangeShapes Go.WideShapes Go.RowKit Go.Joins Go.Deep
theorem chunks {α : Type} {c : Nat} : ∀ {L : List (List α)} {cs : List α}, cs.length = L.length * c → (∀ i (hi : i < L.length), (cs.drop (i * c)).take c = L[i]) → cs = L.flatten
  | [], cs, h, _ => by simp at h; simp [h]
  | x :: L, cs, h, hi => by
    have h0 := hi 0 (by simp)
    simp at h0
    have hr : cs.drop c = L.flatten := chunks (c := c) (by rw [List.length_drop, h, List.length_cons, Nat.add_mul]; omega) (fun i hlt => by
      have := hi (i + 1) (by simp; omega)
      rw [List.drop_drop, show c + i * c = (i + 1) * c by rw [Nat.add_mul]; omega]
      simpa using this)
    rw [List.flatten_cons, ← hr, ← h0, List.take_append_drop]
section
variable {H : Type} {enc : TypeId × Value → H} {P : Program} {w : World} {base : Nat} {sp : Nat → Bool} {held : Bool}
theorem one_at {cs : List Value} {j : Nat} {v : Value} (h : (cs.drop j).take 1 = [v]) : cs[j]? = some v := by
  have := congrArg (·[0]?) h
  simpa [List.getElem?_take, List.getElem?_drop] using this
/-- A struct of a string and four integers, out of its datum. -/
theorem row5_cells {fuel : Nat} {t : TypeId} {f0 f1 f2 f3 f4 : Field} {k : IntKind} {cs : List Value} {l : List UInt8} {a b c d : Int} {p : List MemPlace} (hs : P.underlying t = some (.struct #[f0, f1, f2, f3, f4])) (hone : oneCellFields P #[f0, f1, f2, f3, f4] = true) (hC : P.cellsOf t = 5)
    (h0 : P.underlying f0.type = some .string) (h1 : P.underlying f1.type = some (.int k)) (h2 : P.underlying f2.type = some (.int k)) (h3 : P.underlying f3.type = some (.int k)) (h4 : P.underlying f4.type = some (.int k))
    (h : DataW.trod enc P w base sp held fuel t cs = some (.agg [.lit (.string l), .lit (.int k a), .lit (.int k b), .lit (.int k c), .lit (.int k d)], p)) : cs = [.string ⟨l.toArray⟩, .int k a, .int k b, .int k c, .int k d] := by
  obtain ⟨xs, n, _, hx, hl, hlen, hg⟩ := DataW.trod_struct hs h
  obtain ⟨o0, k0⟩ := hone_of hone 0 f0 rfl
  obtain ⟨o1, k1⟩ := hone_of hone 1 f1 rfl
  obtain ⟨o2, k2⟩ := hone_of hone 2 f2 rfl
  obtain ⟨o3, k3⟩ := hone_of hone 3 f3 rfl
  obtain ⟨o4, k4⟩ := hone_of hone 4 f4 rfl
  match xs, hlen with
  | [y0, y1, y2, y3, y4], _ =>
    simp only [Prod.mk.injEq] at hx
    have hx1 := hx.1
    simp at hx1
    obtain ⟨e0, e1, e2, e3, e4⟩ := hx1
    have g0 := hg 0 f0 rfl
    have g1 := hg 1 f1 rfl
    have g2 := hg 2 f2 rfl
    have g3 := hg 3 f3 rfl
    have g4 := hg 4 f4 rfl
    rw [o0, k0] at g0
    rw [o1, k1] at g1
    rw [o2, k2] at g2
    rw [o3, k3] at g3
    rw [o4, k4] at g4
    simp only [List.getElem?_cons_zero, List.getElem?_cons_succ] at g0 g1 g2 g3 g4
    obtain ⟨s, c0, z0, _⟩ := DataW.trod_string h0 g0
    obtain ⟨n1, c1, z1, _⟩ := DataW.trod_int h1 g1
    obtain ⟨n2, c2, z2, _⟩ := DataW.trod_int h2 g2
    obtain ⟨n3, c3, z3, _⟩ := DataW.trod_int h3 g3
    obtain ⟨n4, c4, z4, _⟩ := DataW.trod_int h4 g4
    rw [z0] at e0; rw [z1] at e1; rw [z2] at e2; rw [z3] at e3; rw [z4] at e4
    simp at e0 e1 e2 e3 e4
    have q0 := one_at c0
    have q1 := one_at c1
    have q2 := one_at c2
    have q3 := one_at c3
    have q4 := one_at c4
    subst e1 e2 e3 e4
    have es : s = ⟨l.toArray⟩ := by rw [e0]
    subst es
    match cs, hl.trans hC with
    | [x0, x1, x2, x3, x4], _ =>
      simp at q0 q1 q2 q3 q4
      rw [q0, q1, q2, q3, q4]
/-- An array whose elements are known, element by element. -/
theorem arr_cells {fuel n c : Nat} {t e : TypeId} {cs : List Value} {ds : List (DataW H)} {p : List MemPlace} {L : List (List Value)} (ht : P.underlying t = some (.array n e)) (hce : P.cellsOf e = c) (hct : P.cellsOf t = n * c) (hL : L.length = n)
    (h : DataW.trod enc P w base sp held fuel t cs = some (.agg ds, p))
    (hel : ∀ i (hi : i < L.length) m cs' d q, ds[i]? = some d → DataW.trod enc P w base sp held m e cs' = some (d, q) → cs' = L[i]) : cs = L.flatten := by
  obtain ⟨xs, m, _, hx, hl, hlen, hg⟩ := DataW.trod_array ht h
  simp only [Prod.mk.injEq] at hx
  have hx1 := hx.1
  simp at hx1
  refine chunks (c := c) (by rw [hl, hct, hL]) fun i hi => ?_
  have := hg i (by omega)
  rw [hce] at this
  have hxi : xs[i]? = some (xs[i]'(by omega)) := List.getElem?_eq_getElem (by omega)
  rw [hxi] at this
  exact hel i hi m _ _ _ (by rw [hx1, List.getElem?_map, hxi]; rfl) this
/-- A field of a struct that is read: its type, its offset and its number of cells. -/
theorem field_of {n : Nat} {fs : Array Field} {cs : List Value} {xs : List (DataW H × List MemPlace)} (hg : ∀ (i : Nat) (f : Field), fs[i]? = some f → DataW.trod enc P w base sp held n f.type ((cs.drop f.offset).take (P.cellsOf f.type)) = xs[i]?) (i : Nat) (ty : TypeId) (off k : Nat)
    (h : (fs[i]?).map (fun f => (f.type, f.offset)) = some (ty, off)) (hk : P.cellsOf ty = k) : DataW.trod enc P w base sp held n ty ((cs.drop off).take k) = xs[i]? := by
  cases hf : fs[i]? with
  | none => rw [hf] at h; cases h
  | some f =>
    rw [hf] at h
    simp at h
    have := hg i f hf
    rw [h.1, h.2, hk] at this
    exact this
/-- A listed array, out of the row's condition. -/
theorem glob_of_laid {P : Program} {W : World} {laid : List (String × DataW Unit)} {name : String} {ds : List (DataW Unit)} {g n c : Nat} {t e : TypeId} {L : List (List Value)} {cs : Array Value} (i : Nat)
    (hpl : (laid.all fun x => x.2.handleName?.isNone) = true) (h : laidMetH P laid W) (hi : laid[i]? = some (name, .agg ds))
    (hg : P.globalNamed name = some g) (hty : (P.globals[g]?).map (·.type) = some t) (ht : P.underlying t = some (.array n e)) (hce : P.cellsOf e = c) (hct : P.cellsOf t = n * c) (hL : L.length = n) (hcs : cs = L.flatten.toArray)
    (hel : ∀ (w : World) i (hi : i < L.length) m cs' d q, ds[i]? = some d → DataW.trod (fun _ => ()) P w 0 (fun _ => true) false m e cs' = some (d, q) → cs' = L[i]) : Glob W g cs := by
  rw [MakeChecks.laidMetH_plain _ _ _ hpl] at h
  obtain ⟨ps, hv, _⟩ := h
  obtain ⟨g', t', cs', fuel, p, hg', ht', hvar, hd⟩ := vars_at hv i name _ hi
  obtain rfl := Option.some.inj (hg.symm.trans hg')
  obtain rfl := Option.some.inj (hty.symm.trans ht')
  have hc := arr_cells ht hce hct hL hd (hel W)
  unfold World.var? at hvar
  rw [hg] at hvar
  simp only [Option.bind_some] at hvar
  split at hvar
  · rename_i cs2 tt fr he
    injection hvar with hvar
    subst hvar
    refine ⟨tt, fr, by rw [he, hcs, ← hc]⟩
  · cases hvar
end
end Go.Proofs.YtollifnnpihfdaaGreatDoor
/- A process and a loss that came in. -/
namespace Go.Proofs.YtollifnnpihfdaaGreatDoor
open Go.ChangeShapes Go.WideShapes Go.RowKit Go.Joins Go.Deep
theorem listF2 {α : Type} {l : List α} (h : l.length = 2) : ∃ c0 c1, l = [c0, c1] := by
  match l, h with
  | [c0, c1], _ => exact ⟨c0, c1, rfl⟩
theorem listF5 {α : Type} {l : List α} (h : l.length = 5) : ∃ c0 c1 c2 c3 c4, l = [c0, c1, c2, c3, c4] := by
  match l, h with
  | [c0, c1, c2, c3, c4], _ => exact ⟨c0, c1, c2, c3, c4, rfl⟩
theorem listF13 {α : Type} {l : List α} (h : l.length = 13) : ∃ c0 c1 c2 c3 c4 c5 c6 c7 c8 c9 c10 c11 c12, l = [c0, c1, c2, c3, c4, c5, c6, c7, c8, c9, c10, c11, c12] := by
  match l, h with
  | [c0, c1, c2, c3, c4, c5, c6, c7, c8, c9, c10, c11, c12], _ => exact ⟨c0, c1, c2, c3, c4, c5, c6, c7, c8, c9, c10, c11, c12, rfl⟩
theorem listF14 {α : Type} {l : List α} (h : l.length = 14) : ∃ c0 c1 c2 c3 c4 c5 c6 c7 c8 c9 c10 c11 c12 c13, l = [c0, c1, c2, c3, c4, c5, c6, c7, c8, c9, c10, c11, c12, c13] := by
  match l, h with
  | [c0, c1, c2, c3, c4, c5, c6, c7, c8, c9, c10, c11, c12, c13], _ => exact ⟨c0, c1, c2, c3, c4, c5, c6, c7, c8, c9, c10, c11, c12, c13, rfl⟩
theorem listF25 {α : Type} {l : List α} (h : l.length = 25) : ∃ c0 c1 c2 c3 c4 c5 c6 c7 c8 c9 c10 c11 c12 c13 c14 c15 c16 c17 c18 c19 c20 c21 c22 c23 c24, l = [c0, c1, c2, c3, c4, c5, c6, c7, c8, c9, c10, c11, c12, c13, c14, c15, c16, c17, c18, c19, c20, c21, c22, c23, c24] := by
  match l, h with
  | [c0, c1, c2, c3, c4, c5, c6, c7, c8, c9, c10, c11, c12, c13, c14, c15, c16, c17, c18, c19, c20, c21, c22, c23, c24], _ => exact ⟨c0, c1, c2, c3, c4, c5, c6, c7, c8, c9, c10, c11, c12, c13, c14, c15, c16, c17, c18, c19, c20, c21, c22, c23, c24, rfl⟩
theorem listF7 {α : Type} {l : List α} (h : l.length = 7) : ∃ c0 c1 c2 c3 c4 c5 c6, l = [c0, c1, c2, c3, c4, c5, c6] := by
  match l, h with
  | [c0, c1, c2, c3, c4, c5, c6], _ => exact ⟨c0, c1, c2, c3, c4, c5, c6, rfl⟩
theorem mapM_get {α β : Type} {f : α → Option β} : ∀ {l : List α} {r : List β}, l.mapM f = some r → r.length = l.length ∧ ∀ i (hi : i < l.length), f (l[i]'hi) = r[i]?
  | [], r, h => by
    simp at h; subst h; simp
  | x :: l, r, h => by
    rw [List.mapM_cons] at h
    cases hx : f x with
    | none => rw [hx] at h; cases h
    | some y =>
      cases hm : l.mapM f with
      | none => rw [hx, hm] at h; cases h
      | some ys =>
        rw [hx, hm] at h
        simp at h
        subst h
        obtain ⟨h1, h2⟩ := mapM_get hm
        refine ⟨by simp [h1], fun i hi => ?_⟩
        cases i with
        | zero => simpa using hx
        | succ i => simpa using h2 i (by simpa using hi)
theorem cells_each {w : World} {base n : Nat} {a : Addr} {cs : List Value} (h : w.cells? base a n = some cs) : cs.length = n ∧ ∀ j, j < n → w.cell? (a.add j) = cs[j]? := by
  unfold World.cells? at h
  split at h
  · obtain ⟨h1, h2⟩ := mapM_get h
    refine ⟨by simpa using h1, fun j hj => ?_⟩
    have := h2 j (by simpa using hj)
    simpa using this
  · cases h
section
variable {H : Type} {enc : TypeId × Value → H} {W : World} {base : Nat} {sp : Nat → Bool} {held : Bool}
theorem field_some {P : Program} {n : Nat} {fs : Array Field} {cs : List Value} {xs : List (DataW H × List MemPlace)} (hg : ∀ (i : Nat) (f : Field), fs[i]? = some f → DataW.trod enc P W base sp held n f.type ((cs.drop f.offset).take (P.cellsOf f.type)) = xs[i]?) (hl : xs.length = fs.size) (i : Nat) (ty : TypeId) (off k : Nat)
    (h : (fs[i]?).map (fun f => (f.type, f.offset)) = some (ty, off)) (hk : P.cellsOf ty = k) : ∃ y, y ∈ xs ∧ DataW.trod enc P W base sp held n ty ((cs.drop off).take k) = some y := by
  have h1 := field_of hg i ty off k h hk
  have hi : i < fs.size := by
    rcases Nat.lt_or_ge i fs.size with hlt | hge
    · exact hlt
    · rw [Array.getElem?_eq_none hge] at h; cases h
  rw [List.getElem?_eq_getElem (by omega)] at h1
  exact ⟨_, List.getElem_mem _, h1⟩
theorem int_of {n : Nat} {v : Value} {y : DataW H × List MemPlace} (h : DataW.trod enc Tryz.prog W base sp held n 3 [v] = some y) : ∃ z : Int, v = .int .i64 z ∧ -9223372036854775808 ≤ z ∧ z ≤ 9223372036854775807 := by
  obtain ⟨z, e, _, w0⟩ := DataW.trod_int Tryz.underlying3 h
  injection e with e
  exact ⟨z, e, bounds_i64 w0⟩
theorem str_of {n : Nat} {v : Value} {y : DataW H × List MemPlace} (h : DataW.trod enc Tryz.prog W base sp held n 9 [v] = some y) : ∃ s : ByteArray, v = .string s ∧ s.size ≤ maxLen := by
  obtain ⟨s, e, _, w0⟩ := DataW.trod_string Tryz.underlying9 h
  injection e with e
  exact ⟨s, e, w0⟩
theorem bool_of {n : Nat} {v : Value} {y : DataW H × List MemPlace} (h : DataW.trod enc Tryz.prog W base sp held n 4 [v] = some y) : ∃ b : Bool, v = .bool b := by
  obtain ⟨b, e, _⟩ := DataW.trod_bool Tryz.underlying4 h
  injection e with e
  exact ⟨b, e⟩
theorem sl_of {P : Program} {n : Nat} {t e : TypeId} {v : Value} {y : DataW H × List MemPlace} (ht : P.underlying t = some (.slice e)) (h : DataW.trod enc P W base sp held n t [v] = some y) : ∃ s : Sl, v = s.v := by
  rcases DataW.trod_slice ht h with ⟨e, _⟩ | ⟨a, len, cap, _, _, _, _, e, _⟩
  · injection e with e; exact ⟨⟨none, 0, 0⟩, e⟩
  · injection e with e; exact ⟨⟨some a, len, cap⟩, e⟩
theorem file_of {n : Nat} {cs : List Value} {y : DataW H × List MemPlace} (h : DataW.trod enc Tryz.prog W base sp held n 44 cs = some y) : ∃ a b : Int, cs = [.int .i64 a, .int .i64 b] := by
  obtain ⟨xs, m, _, hx, hc, hlen, hg⟩ := DataW.trod_struct Tryz.underlying44 h
  obtain ⟨c0, c1, rfl⟩ := listF2 (hc.trans (show Tryz.prog.cellsOf 44 = 2 by kernel_rfl))
  obtain ⟨_, _, g0⟩ := field_some hg hlen 0 3 0 1 rfl (by kernel_rfl)
  obtain ⟨_, _, g1⟩ := field_some hg hlen 1 3 1 1 rfl (by kernel_rfl)
  obtain ⟨a, rfl, _⟩ := int_of g0
  obtain ⟨b, rfl, _⟩ := int_of g1
  exact ⟨a, b, rfl⟩
abbrev procA (p : Nat → Int) (d i : Int) (comm exe : ByteArray) (o : Sl) (u : Bool) : Array Value := #[.int .i64 (p 0), .int .i64 (p 1), .int .i64 (p 2), .int .i64 (p 3), .int .i64 (p 4), .int .i64 (p 5), .int .i64 (p 6), .int .i64 (p 7), .int .i64 d, .int .i64 i, .string comm, .string exe, o.v, .bool u]
set_option maxRecDepth 100000 in
theorem proc_arg {d : DataW H} {p : List MemPlace} {v : Value} (hv : Value.okWide Tryz.prog W .any base 47 v) (h : DataW.Trod enc Tryz.prog W 0 (fun _ => true) true 47 v d p) :
    ∃ (p : Nat → Int) (d i : Int) (comm exe : ByteArray) (o : Sl) (u : Bool), v = .agg (procA p d i comm exe o u) := by
  obtain ⟨cs, rfl, hsz⟩ := okWide_struct Tryz.underlying47 hv
  obtain ⟨l⟩ := cs
  obtain ⟨c0, c1, c2, c3, c4, c5, c6, c7, c8, c9, c10, c11, c12, c13, rfl⟩ := listF14 (l := l) (hsz.trans (show Tryz.prog.cellsOf 47 = 14 by kernel_rfl))
  obtain ⟨fuel, hf⟩ := h
  obtain ⟨xs1, n1, _, _, _, hlen1, hg1⟩ := DataW.trod_struct Tryz.underlying47 hf
  obtain ⟨_, _, j0⟩ := field_some hg1 hlen1 0 3 0 1 rfl (by kernel_rfl)
  obtain ⟨p0, rfl, _⟩ := int_of j0
  obtain ⟨_, _, j1⟩ := field_some hg1 hlen1 1 3 1 1 rfl (by kernel_rfl)
  obtain ⟨p1, rfl, _⟩ := int_of j1
  obtain ⟨_, _, j2⟩ := field_some hg1 hlen1 2 3 2 1 rfl (by kernel_rfl)
  obtain ⟨p2, rfl, _⟩ := int_of j2
  obtain ⟨_, _, j3⟩ := field_some hg1 hlen1 3 3 3 1 rfl (by kernel_rfl)
  obtain ⟨p3, rfl, _⟩ := int_of j3
  obtain ⟨_, _, j4⟩ := field_some hg1 hlen1 4 3 4 1 rfl (by kernel_rfl)
  obtain ⟨p4, rfl, _⟩ := int_of j4
  obtain ⟨_, _, j5⟩ := field_some hg1 hlen1 5 3 5 1 rfl (by kernel_rfl)
  obtain ⟨p5, rfl, _⟩ := int_of j5
  obtain ⟨_, _, j6⟩ := field_some hg1 hlen1 6 3 6 1 rfl (by kernel_rfl)
  obtain ⟨p6, rfl, _⟩ := int_of j6
  obtain ⟨_, _, j7⟩ := field_some hg1 hlen1 7 3 7 1 rfl (by kernel_rfl)
  obtain ⟨p7, rfl, _⟩ := int_of j7
  obtain ⟨_, _, j8⟩ := field_some hg1 hlen1 8 44 8 2 rfl (by kernel_rfl)
  obtain ⟨_, _, j9⟩ := field_some hg1 hlen1 9 9 10 1 rfl (by kernel_rfl)
  obtain ⟨_, _, j10⟩ := field_some hg1 hlen1 10 9 11 1 rfl (by kernel_rfl)
  obtain ⟨_, _, j11⟩ := field_some hg1 hlen1 11 45 12 1 rfl (by kernel_rfl)
  obtain ⟨_, _, j12⟩ := field_some hg1 hlen1 12 4 13 1 rfl (by kernel_rfl)
  obtain ⟨d0, d1, e8⟩ := file_of j8
  injection e8 with e8 e9
  injection e9 with e9
  subst e8 e9
  obtain ⟨comm, rfl, hcomm⟩ := str_of j9
  obtain ⟨exe, rfl, hexe⟩ := str_of j10
  obtain ⟨os, rfl⟩ := sl_of Tryz.underlying45 j11
  obtain ⟨au, rfl⟩ := bool_of j12
  exact ⟨fun j => if j = 0 then p0 else if j = 1 then p1 else if j = 2 then p2 else if j = 3 then p3 else if j = 4 then p4 else if j = 5 then p5 else if j = 6 then p6 else p7, d0, d1, comm, exe, os, au, rfl⟩
set_option maxRecDepth 100000 in
theorem loss_arg {d : DataW H} {p : List MemPlace} {v : Value} (hv : Value.okWide Tryz.prog W .any base 101 v) (h : DataW.Trod enc Tryz.prog W 0 (fun _ => true) true 101 v d p) :
    ∃ a : Nat → Int, v = .agg #[.int .i64 (a 0), .int .i64 (a 1), .int .i64 (a 2), .int .i64 (a 3), .int .i64 (a 4)] := by
  obtain ⟨cs, rfl, hsz⟩ := okWide_struct Tryz.underlying101 hv
  obtain ⟨l⟩ := cs
  obtain ⟨c0, c1, c2, c3, c4, rfl⟩ := listF5 (l := l) (hsz.trans (show Tryz.prog.cellsOf 101 = 5 by kernel_rfl))
  obtain ⟨fuel, hf⟩ := h
  obtain ⟨xs1, n1, _, _, _, hlen1, hg1⟩ := DataW.trod_struct Tryz.underlying101 hf
  obtain ⟨_, _, j0⟩ := field_some hg1 hlen1 0 3 0 1 rfl (by kernel_rfl)
  obtain ⟨p0, rfl, _⟩ := int_of j0
  obtain ⟨_, _, j1⟩ := field_some hg1 hlen1 1 3 1 1 rfl (by kernel_rfl)
  obtain ⟨p1, rfl, _⟩ := int_of j1
  obtain ⟨_, _, j2⟩ := field_some hg1 hlen1 2 3 2 1 rfl (by kernel_rfl)
  obtain ⟨p2, rfl, _⟩ := int_of j2
  obtain ⟨_, _, j3⟩ := field_some hg1 hlen1 3 3 3 1 rfl (by kernel_rfl)
  obtain ⟨p3, rfl, _⟩ := int_of j3
  obtain ⟨_, _, j4⟩ := field_some hg1 hlen1 4 3 4 1 rfl (by kernel_rfl)
  obtain ⟨p4, rfl, _⟩ := int_of j4
  exact ⟨fun j => if j = 0 then p0 else if j = 1 then p1 else if j = 2 then p2 else if j = 3 then p3 else p4, rfl⟩
end
end Go.Proofs.YtollifnnpihfdaaGreatDoor
/- The listed tables of fields and operators. -/
namespace Go.Proofs.YtollifnnpihfdaaGreatDoor
open Go.ChangeShapes Go.WideShapes Go.RowKit Go.Joins Go.Deep
theorem flat_one : ∀ M : List ByteArray, (M.map fun s => [Value.string s]).flatten = M.map Value.string
  | [] => rfl
  | x :: M => by simp [flat_one M]
theorem strs_laid {P : Program} {W : World} {laid : List (String × DataW Unit)} {name : String} {g n : Nat} {t e : TypeId} {M : List ByteArray} (i : Nat)
    (hpl : (laid.all fun x => x.2.handleName?.isNone) = true) (h : laidMetH P laid W) (hi : laid[i]? = some (name, .agg (M.map fun s => .lit (.string s.data.toList))))
    (hg : P.globalNamed name = some g) (hty : (P.globals[g]?).map (·.type) = some t) (ht : P.underlying t = some (.array n e)) (hce : P.cellsOf e = 1) (hct : P.cellsOf t = n * 1) (he : P.underlying e = some .string) (hL : M.length = n) : Glob W g (M.map Value.string).toArray :=
  glob_of_laid (c := 1) (n := n) (L := M.map fun s => [Value.string s]) i hpl h hi hg hty ht hce hct (by simpa using hL) (by
    rw [flat_one]) (fun w j hj m cs' d q hd htr => by
    have hjM : j < M.length := by simpa using hj
    rw [List.getElem?_map, List.getElem?_eq_getElem hjM] at hd
    simp at hd
    obtain ⟨s, c0, z0, _⟩ := DataW.trod_string he htr
    rw [← hd] at z0
    simp at z0
    subst c0
    have : s = M[j] := by
      apply ByteArray.ext
      exact z0.1.symm
    rw [this]; simp)
theorem names_laid {W : World} {laid : List (String × DataW Unit)} (i : Nat) (hpl : (laid.all fun x => x.2.handleName?.isNone) = true) (h : laidMetH Tryz.prog laid W) (hi : laid[i]? = some ("kaudit/field.names", Rows.laid_kaudit_field_names)) : FNames W :=
  strs_laid (M := fieldL) (t := 262) (e := 9) (n := 23) i hpl h hi (by kernel_rfl) (by kernel_rfl) Tryz.underlying262 (by kernel_rfl) (by kernel_rfl) Tryz.underlying9 rfl
theorem ops_laid {W : World} {laid : List (String × DataW Unit)} (i : Nat) (hpl : (laid.all fun x => x.2.handleName?.isNone) = true) (h : laidMetH Tryz.prog laid W) (hi : laid[i]? = some ("kaudit/field.operators", Rows.laid_kaudit_field_operators)) : FOps W :=
  strs_laid (M := opL) (t := 263) (e := 9) (n := 9) i hpl h hi (by kernel_rfl) (by kernel_rfl) Tryz.underlying263 (by kernel_rfl) (by kernel_rfl) Tryz.underlying9 rfl
end Go.Proofs.YtollifnnpihfdaaGreatDoor
/- The listed tables of rules. -/
namespace Go.Proofs.YtollifnnpihfdaaGreatDoor
open Go.ChangeShapes Go.WideShapes Go.RowKit Go.Joins Go.Deep
theorem lists_laid {W : World} {laid : List (String × DataW Unit)} (i : Nat) (hpl : (laid.all fun x => x.2.handleName?.isNone) = true) (h : laidMetH Tryz.prog laid W) (hi : laid[i]? = some ("kaudit/rule.lists", Rows.laid_kaudit_rule_lists)) : RLists W :=
  strs_laid (M := listL) (t := 211) (e := 9) (n := 6) i hpl h hi (by kernel_rfl) (by kernel_rfl) Tryz.underlying211 (by kernel_rfl) (by kernel_rfl) Tryz.underlying9 rfl
theorem acts_laid {W : World} {laid : List (String × DataW Unit)} (i : Nat) (hpl : (laid.all fun x => x.2.handleName?.isNone) = true) (h : laidMetH Tryz.prog laid W) (hi : laid[i]? = some ("kaudit/rule.actions", Rows.laid_kaudit_rule_actions)) : RActs W :=
  strs_laid (M := actL) (t := 210) (e := 9) (n := 3) i hpl h hi (by kernel_rfl) (by kernel_rfl) Tryz.underlying210 (by kernel_rfl) (by kernel_rfl) Tryz.underlying9 rfl
theorem perm_laid {W : World} {laid : List (String × DataW Unit)} (i : Nat) (hpl : (laid.all fun x => x.2.handleName?.isNone) = true) (h : laidMetH Tryz.prog laid W) (hi : laid[i]? = some ("kaudit/rule.permBits", Rows.laid_kaudit_rule_permBits)) : RPerm W :=
  glob_of_tab (tab_of_laid (k := .i64) (zs := [4, 2, 1, 8]) (g := 5) i hpl h hi (by kernel_rfl) (by kernel_rfl) Tryz.underlying48 Tryz.underlying3 (by kernel_rfl) (by kernel_rfl)) (by kernel_rfl) rfl
end Go.Proofs.YtollifnnpihfdaaGreatDoor
/- The listed table of calls. -/
namespace Go.Proofs.YtollifnnpihfdaaGreatDoor
open Go.ChangeShapes Go.WideShapes Go.RowKit Go.Joins Go.Deep
theorem cells_of_row (w : World) (i : Nat) (hi : i < (rowsC.map (CRow.cells .u8)).length) (m : Nat) (cs' : List Value) (d : DataW Unit) (q : List MemPlace) (ds : List (DataW Unit)) (hds : DataW.agg ds = Rows.laid_kaudit_call_calls) (hd : ds[i]? = some d) (ht : DataW.trod (fun _ => ()) Tryz.prog w 0 (fun _ => true) false m 237 cs' = some (d, q)) : cs' = (rowsC.map (CRow.cells .u8))[i] := by
  have H : ∀ k : Fin 22, ds[k.val]? = some d → cs' = (rowsC.map (CRow.cells .u8))[k.val]'(by have : (rowsC.map (CRow.cells .u8)).length = 22 := rfl; omega) := by
    unfold Rows.laid_kaudit_call_calls at hds
    injection hds with hds
    subst hds
    intro k hd
    match k with
    | ⟨0, _⟩ => exact row5_cells Tryz.underlying237 (by kernel_rfl) (by kernel_rfl) Tryz.underlying9 Tryz.underlying5 Tryz.underlying5 Tryz.underlying5 Tryz.underlying5 (by cases hd; exact ht)
    | ⟨1, _⟩ => exact row5_cells Tryz.underlying237 (by kernel_rfl) (by kernel_rfl) Tryz.underlying9 Tryz.underlying5 Tryz.underlying5 Tryz.underlying5 Tryz.underlying5 (by cases hd; exact ht)
    | ⟨2, _⟩ => exact row5_cells Tryz.underlying237 (by kernel_rfl) (by kernel_rfl) Tryz.underlying9 Tryz.underlying5 Tryz.underlying5 Tryz.underlying5 Tryz.underlying5 (by cases hd; exact ht)
    | ⟨3, _⟩ => exact row5_cells Tryz.underlying237 (by kernel_rfl) (by kernel_rfl) Tryz.underlying9 Tryz.underlying5 Tryz.underlying5 Tryz.underlying5 Tryz.underlying5 (by cases hd; exact ht)
    | ⟨4, _⟩ => exact row5_cells Tryz.underlying237 (by kernel_rfl) (by kernel_rfl) Tryz.underlying9 Tryz.underlying5 Tryz.underlying5 Tryz.underlying5 Tryz.underlying5 (by cases hd; exact ht)
    | ⟨5, _⟩ => exact row5_cells Tryz.underlying237 (by kernel_rfl) (by kernel_rfl) Tryz.underlying9 Tryz.underlying5 Tryz.underlying5 Tryz.underlying5 Tryz.underlying5 (by cases hd; exact ht)
    | ⟨6, _⟩ => exact row5_cells Tryz.underlying237 (by kernel_rfl) (by kernel_rfl) Tryz.underlying9 Tryz.underlying5 Tryz.underlying5 Tryz.underlying5 Tryz.underlying5 (by cases hd; exact ht)
    | ⟨7, _⟩ => exact row5_cells Tryz.underlying237 (by kernel_rfl) (by kernel_rfl) Tryz.underlying9 Tryz.underlying5 Tryz.underlying5 Tryz.underlying5 Tryz.underlying5 (by cases hd; exact ht)
    | ⟨8, _⟩ => exact row5_cells Tryz.underlying237 (by kernel_rfl) (by kernel_rfl) Tryz.underlying9 Tryz.underlying5 Tryz.underlying5 Tryz.underlying5 Tryz.underlying5 (by cases hd; exact ht)
    | ⟨9, _⟩ => exact row5_cells Tryz.underlying237 (by kernel_rfl) (by kernel_rfl) Tryz.underlying9 Tryz.underlying5 Tryz.underlying5 Tryz.underlying5 Tryz.underlying5 (by cases hd; exact ht)
    | ⟨10, _⟩ => exact row5_cells Tryz.underlying237 (by kernel_rfl) (by kernel_rfl) Tryz.underlying9 Tryz.underlying5 Tryz.underlying5 Tryz.underlying5 Tryz.underlying5 (by cases hd; exact ht)
    | ⟨11, _⟩ => exact row5_cells Tryz.underlying237 (by kernel_rfl) (by kernel_rfl) Tryz.underlying9 Tryz.underlying5 Tryz.underlying5 Tryz.underlying5 Tryz.underlying5 (by cases hd; exact ht)
    | ⟨12, _⟩ => exact row5_cells Tryz.underlying237 (by kernel_rfl) (by kernel_rfl) Tryz.underlying9 Tryz.underlying5 Tryz.underlying5 Tryz.underlying5 Tryz.underlying5 (by cases hd; exact ht)
    | ⟨13, _⟩ => exact row5_cells Tryz.underlying237 (by kernel_rfl) (by kernel_rfl) Tryz.underlying9 Tryz.underlying5 Tryz.underlying5 Tryz.underlying5 Tryz.underlying5 (by cases hd; exact ht)
    | ⟨14, _⟩ => exact row5_cells Tryz.underlying237 (by kernel_rfl) (by kernel_rfl) Tryz.underlying9 Tryz.underlying5 Tryz.underlying5 Tryz.underlying5 Tryz.underlying5 (by cases hd; exact ht)
    | ⟨15, _⟩ => exact row5_cells Tryz.underlying237 (by kernel_rfl) (by kernel_rfl) Tryz.underlying9 Tryz.underlying5 Tryz.underlying5 Tryz.underlying5 Tryz.underlying5 (by cases hd; exact ht)
    | ⟨16, _⟩ => exact row5_cells Tryz.underlying237 (by kernel_rfl) (by kernel_rfl) Tryz.underlying9 Tryz.underlying5 Tryz.underlying5 Tryz.underlying5 Tryz.underlying5 (by cases hd; exact ht)
    | ⟨17, _⟩ => exact row5_cells Tryz.underlying237 (by kernel_rfl) (by kernel_rfl) Tryz.underlying9 Tryz.underlying5 Tryz.underlying5 Tryz.underlying5 Tryz.underlying5 (by cases hd; exact ht)
    | ⟨18, _⟩ => exact row5_cells Tryz.underlying237 (by kernel_rfl) (by kernel_rfl) Tryz.underlying9 Tryz.underlying5 Tryz.underlying5 Tryz.underlying5 Tryz.underlying5 (by cases hd; exact ht)
    | ⟨19, _⟩ => exact row5_cells Tryz.underlying237 (by kernel_rfl) (by kernel_rfl) Tryz.underlying9 Tryz.underlying5 Tryz.underlying5 Tryz.underlying5 Tryz.underlying5 (by cases hd; exact ht)
    | ⟨20, _⟩ => exact row5_cells Tryz.underlying237 (by kernel_rfl) (by kernel_rfl) Tryz.underlying9 Tryz.underlying5 Tryz.underlying5 Tryz.underlying5 Tryz.underlying5 (by cases hd; exact ht)
    | ⟨21, _⟩ => exact row5_cells Tryz.underlying237 (by kernel_rfl) (by kernel_rfl) Tryz.underlying9 Tryz.underlying5 Tryz.underlying5 Tryz.underlying5 Tryz.underlying5 (by cases hd; exact ht)
    | ⟨k + 22, h⟩ => exact absurd h (by omega)
  exact H ⟨i, hi⟩ hd
theorem calls_of_laid {W : World} {laid : List (String × DataW Unit)} (i : Nat) (hpl : (laid.all fun x => x.2.handleName?.isNone) = true) (h : laidMetH Tryz.prog laid W) (hi : laid[i]? = some ("kaudit/call.calls", Rows.laid_kaudit_call_calls)) : Calls10 W :=
  glob_of_laid (t := 238) (e := 237) (c := 5) (n := 22) (L := rowsC.map (CRow.cells .u8)) i hpl h hi rfl (by kernel_rfl) Tryz.underlying238 (by kernel_rfl) (by kernel_rfl) rfl rfl (fun w i hi m cs' d q hd ht => cells_of_row w i hi m cs' d q _ rfl hd ht)
end Go.Proofs.YtollifnnpihfdaaGreatDoor
/- The walk of EmitSingles, with what the row lists. -/

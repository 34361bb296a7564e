/- A test and a context that came in. -/
import Derived.Test.YtnpaoepkpdileaaDoorFieldVEv
import Derived.Test.YtnpaoepkpdileaaDoorLaidRows
import Derived.SliceStrings
import Derived.Laws.IdiomArrays
namespace Go.Proofs.YtnpaoepkpdileaaDoor
open Go.ChangeShapes Go.WideShapes Go.RowKit Go.Joins Go.Deep
theorem listF2 {α : Type} {l : List α} (h : l.length = 2) : ∃ c0 c1, l = [c0, c1] := by
  match l, h with
  | [c0, c1], _ => exact ⟨c0, c1, rfl⟩
theorem listF5 {α : Type} {l : List α} (h : l.length = 5) : ∃ c0 c1 c2 c3 c4, l = [c0, c1, c2, c3, c4] := by
  match l, h with
  | [c0, c1, c2, c3, c4], _ => exact ⟨c0, c1, c2, c3, c4, rfl⟩
theorem listF13 {α : Type} {l : List α} (h : l.length = 13) : ∃ c0 c1 c2 c3 c4 c5 c6 c7 c8 c9 c10 c11 c12, l = [c0, c1, c2, c3, c4, c5, c6, c7, c8, c9, c10, c11, c12] := by
  match l, h with
  | [c0, c1, c2, c3, c4, c5, c6, c7, c8, c9, c10, c11, c12], _ => exact ⟨c0, c1, c2, c3, c4, c5, c6, c7, c8, c9, c10, c11, c12, rfl⟩
theorem listF14 {α : Type} {l : List α} (h : l.length = 14) : ∃ c0 c1 c2 c3 c4 c5 c6 c7 c8 c9 c10 c11 c12 c13, l = [c0, c1, c2, c3, c4, c5, c6, c7, c8, c9, c10, c11, c12, c13] := by
  match l, h with
  | [c0, c1, c2, c3, c4, c5, c6, c7, c8, c9, c10, c11, c12, c13], _ => exact ⟨c0, c1, c2, c3, c4, c5, c6, c7, c8, c9, c10, c11, c12, c13, rfl⟩
theorem listF25 {α : Type} {l : List α} (h : l.length = 25) : ∃ c0 c1 c2 c3 c4 c5 c6 c7 c8 c9 c10 c11 c12 c13 c14 c15 c16 c17 c18 c19 c20 c21 c22 c23 c24, l = [c0, c1, c2, c3, c4, c5, c6, c7, c8, c9, c10, c11, c12, c13, c14, c15, c16, c17, c18, c19, c20, c21, c22, c23, c24] := by
  match l, h with
  | [c0, c1, c2, c3, c4, c5, c6, c7, c8, c9, c10, c11, c12, c13, c14, c15, c16, c17, c18, c19, c20, c21, c22, c23, c24], _ => exact ⟨c0, c1, c2, c3, c4, c5, c6, c7, c8, c9, c10, c11, c12, c13, c14, c15, c16, c17, c18, c19, c20, c21, c22, c23, c24, rfl⟩
theorem listF7 {α : Type} {l : List α} (h : l.length = 7) : ∃ c0 c1 c2 c3 c4 c5 c6, l = [c0, c1, c2, c3, c4, c5, c6] := by
  match l, h with
  | [c0, c1, c2, c3, c4, c5, c6], _ => exact ⟨c0, c1, c2, c3, c4, c5, c6, rfl⟩
theorem mapM_get {α β : Type} {f : α → Option β} : ∀ {l : List α} {r : List β}, l.mapM f = some r → r.length = l.length ∧ ∀ i (hi : i < l.length), f (l[i]'hi) = r[i]?
  | [], r, h => by
    simp at h; subst h; simp
  | x :: l, r, h => by
    rw [List.mapM_cons] at h
    cases hx : f x with
    | none => rw [hx] at h; cases h
    | some y =>
      cases hm : l.mapM f with
      | none => rw [hx, hm] at h; cases h
      | some ys =>
        rw [hx, hm] at h
        simp at h
        subst h
        obtain ⟨h1, h2⟩ := mapM_get hm
        refine ⟨by simp [h1], fun i hi => ?_⟩
        cases i with
        | zero => simpa using hx
        | succ i => simpa using h2 i (by simpa using hi)
theorem cells_each {w : World} {base n : Nat} {a : Addr} {cs : List Value} (h : w.cells? base a n = some cs) : cs.length = n ∧ ∀ j, j < n → w.cell? (a.add j) = cs[j]? := by
  unfold World.cells? at h
  split at h
  · obtain ⟨h1, h2⟩ := mapM_get h
    refine ⟨by simpa using h1, fun j hj => ?_⟩
    have := h2 j (by simpa using hj)
    simpa using this
  · cases h
section
variable {H : Type} {enc : TypeId × Value → H} {W : World} {base : Nat} {sp : Nat → Bool} {held : Bool}
theorem field_some {P : Program} {n : Nat} {fs : Array Field} {cs : List Value} {xs : List (DataW H × List MemPlace)} (hg : ∀ (i : Nat) (f : Field), fs[i]? = some f → DataW.trod enc P W base sp held n f.type ((cs.drop f.offset).take (P.cellsOf f.type)) = xs[i]?) (hl : xs.length = fs.size) (i : Nat) (ty : TypeId) (off k : Nat)
    (h : (fs[i]?).map (fun f => (f.type, f.offset)) = some (ty, off)) (hk : P.cellsOf ty = k) : ∃ y, y ∈ xs ∧ DataW.trod enc P W base sp held n ty ((cs.drop off).take k) = some y := by
  have h1 := field_of hg i ty off k h hk
  have hi : i < fs.size := by
    rcases Nat.lt_or_ge i fs.size with hlt | hge
    · exact hlt
    · rw [Array.getElem?_eq_none hge] at h; cases h
  rw [List.getElem?_eq_getElem (by omega)] at h1
  exact ⟨_, List.getElem_mem _, h1⟩
theorem int_of {n : Nat} {v : Value} {y : DataW H × List MemPlace} (h : DataW.trod enc Tryd.prog W base sp held n 3 [v] = some y) : ∃ z : Int, v = .int .i64 z ∧ -9223372036854775808 ≤ z ∧ z ≤ 9223372036854775807 := by
  obtain ⟨z, e, _, w0⟩ := DataW.trod_int Tryd.underlying3 h
  injection e with e
  exact ⟨z, e, bounds_i64 w0⟩
theorem str_of {n : Nat} {v : Value} {y : DataW H × List MemPlace} (h : DataW.trod enc Tryd.prog W base sp held n 9 [v] = some y) : ∃ s : ByteArray, v = .string s ∧ s.size ≤ maxLen := by
  obtain ⟨s, e, _, w0⟩ := DataW.trod_string Tryd.underlying9 h
  injection e with e
  exact ⟨s, e, w0⟩
theorem bool_of {n : Nat} {v : Value} {y : DataW H × List MemPlace} (h : DataW.trod enc Tryd.prog W base sp held n 4 [v] = some y) : ∃ b : Bool, v = .bool b := by
  obtain ⟨b, e, _⟩ := DataW.trod_bool Tryd.underlying4 h
  injection e with e
  exact ⟨b, e⟩
theorem sl_of {P : Program} {n : Nat} {t e : TypeId} {v : Value} {y : DataW H × List MemPlace} (ht : P.underlying t = some (.slice e)) (h : DataW.trod enc P W base sp held n t [v] = some y) : ∃ s : Sl, v = s.v := by
  rcases DataW.trod_slice ht h with ⟨e, _⟩ | ⟨a, len, cap, _, _, _, _, e, _⟩
  · injection e with e; exact ⟨⟨none, 0, 0⟩, e⟩
  · injection e with e; exact ⟨⟨some a, len, cap⟩, e⟩
theorem file_of {n : Nat} {cs : List Value} {y : DataW H × List MemPlace} (h : DataW.trod enc Tryd.prog W base sp held n 25 cs = some y) : ∃ a b : Int, cs = [.int .i64 a, .int .i64 b] := by
  obtain ⟨xs, m, _, hx, hc, hlen, hg⟩ := DataW.trod_struct Tryd.underlying25 h
  obtain ⟨c0, c1, rfl⟩ := listF2 (hc.trans (show Tryd.prog.cellsOf 25 = 2 by kernel_rfl))
  obtain ⟨_, _, g0⟩ := field_some hg hlen 0 3 0 1 rfl (by kernel_rfl)
  obtain ⟨_, _, g1⟩ := field_some hg hlen 1 3 1 1 rfl (by kernel_rfl)
  obtain ⟨a, rfl, _⟩ := int_of g0
  obtain ⟨b, rfl, _⟩ := int_of g1
  exact ⟨a, b, rfl⟩
theorem item_of {n : Nat} {cs : List Value} {y : DataW H × List MemPlace} (h : DataW.trod enc Tryd.prog W base sp held n 69 cs = some y) : ∃ p : Itm × IRest, cs = (itemC p.1 p.2).toList := by
  obtain ⟨xs, m, _, hx, hc, hlen, hg⟩ := DataW.trod_struct Tryd.underlying69 h
  obtain ⟨c0, c1, c2, c3, c4, c5, c6, c7, c8, c9, c10, c11, c12, rfl⟩ := listF13 (hc.trans (show Tryd.prog.cellsOf 69 = 13 by kernel_rfl))
  obtain ⟨_, _, g0⟩ := field_some hg hlen 0 9 0 1 rfl (by kernel_rfl)
  obtain ⟨_, _, g1⟩ := field_some hg hlen 1 9 1 1 rfl (by kernel_rfl)
  obtain ⟨_, _, g2⟩ := field_some hg hlen 2 25 2 2 rfl (by kernel_rfl)
  obtain ⟨_, _, g4⟩ := field_some hg hlen 3 9 4 1 rfl (by kernel_rfl)
  obtain ⟨_, _, g5⟩ := field_some hg hlen 4 25 5 2 rfl (by kernel_rfl)
  obtain ⟨_, _, g7⟩ := field_some hg hlen 5 3 7 1 rfl (by kernel_rfl)
  obtain ⟨_, _, g8⟩ := field_some hg hlen 6 3 8 1 rfl (by kernel_rfl)
  obtain ⟨_, _, g9⟩ := field_some hg hlen 7 3 9 1 rfl (by kernel_rfl)
  obtain ⟨_, _, g10⟩ := field_some hg hlen 8 3 10 1 rfl (by kernel_rfl)
  obtain ⟨_, _, g11⟩ := field_some hg hlen 9 3 11 1 rfl (by kernel_rfl)
  obtain ⟨_, _, g12⟩ := field_some hg hlen 10 3 12 1 rfl (by kernel_rfl)
  obtain ⟨s0, rfl, _⟩ := str_of g0
  obtain ⟨s1, rfl, _⟩ := str_of g1
  obtain ⟨s4, rfl, _⟩ := str_of g4
  obtain ⟨z7, rfl, _⟩ := int_of g7
  obtain ⟨z8, rfl, _⟩ := int_of g8
  obtain ⟨z9, rfl, _⟩ := int_of g9
  obtain ⟨z10, rfl, _⟩ := int_of g10
  obtain ⟨z11, rfl, _⟩ := int_of g11
  obtain ⟨z12, rfl, _⟩ := int_of g12
  obtain ⟨f2, f3, e2⟩ := file_of g2
  obtain ⟨f5, f6, e4⟩ := file_of g5
  injection e2 with e2 e3
  injection e3 with e3
  injection e4 with e4 e5
  injection e5 with e5
  subst e2 e3 e4 e5
  exact ⟨(⟨f5, f6, z10, z11, z8⟩, ⟨s0, s1, f2, f3, s4, z7, z9, z12⟩), rfl⟩
instance : Inhabited (Itm × IRest) := ⟨(Itm.none, irZ)⟩
theorem items_of {n : Nat} {v : Value} {y : DataW H × List MemPlace} (h : DataW.trod enc Tryd.prog W 0 (fun _ => true) held n 33 [v] = some y) (hlt : ∀ x ∈ y.2, x.block < W.heap.size) :
    ∃ (A : Option Addr) (cp : Nat) (L : List (Itm × IRest)), v = .slice A L.length cp ∧ L.length ≤ maxLen ∧ ItemsAt W W.heap.size A L := by
  rcases open_slice Tryd.underlying33 h with ⟨e, _⟩ | ⟨a, len, cap, m, k, D, Pl, e, _, hl, hm, hmm, hy, hel⟩
  · injection e with e; exact ⟨none, 0, [], e, by simp, ItemsAt.nil⟩
  · injection e with e
    simp only [if_true] at hmm
    subst hmm
    have h13 : Tryd.prog.cellsOf 69 = 13 := by kernel_rfl
    rw [h13] at hel hy
    obtain ⟨f, hf⟩ := choose_lt (n := len) (p := fun i (q : Itm × IRest) => W.cells? 0 (a.add (i * 13)) 13 = some (itemC q.1 q.2).toList) (fun i hi => by
      obtain ⟨cs', h1, h2⟩ := hel i (by omega)
      obtain ⟨p, rfl⟩ := item_of h2
      exact ⟨p, h1⟩)
    refine ⟨some a, m, (List.range len).map f, by simpa using e, by simp; omega, fun j hj => ?_⟩
    have hjl : j < len := by simpa using hj
    refine ⟨a, rfl, ?_, fun i hi => ?_⟩
    · have hmem : MemPlace.cell a.block (a.off + 0) ∈ y.2 := by
        rw [hy]
        refine List.mem_append_left _ ?_
        show _ ∈ MemPlace.row a (m * 13)
        unfold MemPlace.row; simp; omega
      exact hlt _ hmem
    · have := (cells_each (hf j hjl)).2 i hi
      rw [this]
      simp
set_option maxRecDepth 100000 in
theorem test_arg {d : DataW H} {p : List MemPlace} {v : Value} (hv : Value.okWide Tryd.prog W .any base 23 v) (h : DataW.Trod enc Tryd.prog W 0 (fun _ => true) true 23 v d p) : ∃ (fd op nu : Int) (tx : ByteArray) (ot : Int), v = testV fd op nu tx ot ∧ (-9223372036854775808 ≤ nu ∧ nu ≤ 9223372036854775807) ∧ tx.size ≤ maxLen := by
  obtain ⟨cs, rfl, hsz⟩ := okWide_struct Tryd.underlying23 hv
  obtain ⟨l⟩ := cs
  obtain ⟨c0, c1, c2, c3, c4, rfl⟩ := listF5 (l := l) (hsz.trans (show Tryd.prog.cellsOf 23 = 5 by kernel_rfl))
  obtain ⟨fuel, hf⟩ := h
  obtain ⟨xs, n, _, hx, _, hlen, hg⟩ := DataW.trod_struct Tryd.underlying23 hf
  obtain ⟨_, _, g0⟩ := field_some hg hlen 0 3 0 1 rfl (by kernel_rfl)
  obtain ⟨_, _, g1⟩ := field_some hg hlen 1 3 1 1 rfl (by kernel_rfl)
  obtain ⟨_, _, g2⟩ := field_some hg hlen 2 3 2 1 rfl (by kernel_rfl)
  obtain ⟨_, _, g3⟩ := field_some hg hlen 3 9 3 1 rfl (by kernel_rfl)
  obtain ⟨_, _, g4⟩ := field_some hg hlen 4 3 4 1 rfl (by kernel_rfl)
  obtain ⟨fd, rfl, _⟩ := int_of g0
  obtain ⟨op, rfl, _⟩ := int_of g1
  obtain ⟨nu, rfl, hnu⟩ := int_of g2
  obtain ⟨tx, rfl, htx⟩ := str_of g3
  obtain ⟨ot, rfl, _⟩ := int_of g4
  exact ⟨fd, op, nu, tx, ot, rfl, hnu, htx⟩
set_option maxRecDepth 100000 in
theorem ctx_arg {d : DataW H} {p : List MemPlace} {v : Value} (hv : Value.okWide Tryd.prog W .any base 35 v) (h : DataW.Trod enc Tryd.prog W 0 (fun _ => true) true 35 v d p) (hlt : ∀ x ∈ p, x.block < W.heap.size) :
    ∃ (c : Ctx) (r : CRest) (A : Option Addr) (cp : Nat) (L : List (Itm × IRest)), v = ctxV c r (.slice A L.length cp) ∧ L.length ≤ maxLen ∧ ItemsAt W W.heap.size A L ∧ c.exe.size ≤ maxLen ∧ c.comm.size ≤ maxLen := by
  obtain ⟨cs, rfl, hsz⟩ := okWide_struct Tryd.underlying35 hv
  obtain ⟨l⟩ := cs
  obtain ⟨c0, c1, c2, c3, c4, c5, c6, c7, c8, c9, c10, c11, c12, c13, c14, c15, c16, c17, c18, c19, c20, c21, c22, c23, c24, rfl⟩ := listF25 (l := l) (hsz.trans (show Tryd.prog.cellsOf 35 = 25 by kernel_rfl))
  obtain ⟨fuel, hf⟩ := h
  obtain ⟨xs, n, _, hx, _, hlen, hg⟩ := DataW.trod_struct Tryd.underlying35 hf
  simp only [Prod.mk.injEq] at hx
  have hp := hx.2
  obtain ⟨_, _, g0⟩ := field_some hg hlen 0 3 0 1 rfl (by kernel_rfl)
  obtain ⟨_, _, g1⟩ := field_some hg hlen 1 28 1 14 rfl (by kernel_rfl)
  obtain ⟨_, _, g2⟩ := field_some hg hlen 2 32 15 7 rfl (by kernel_rfl)
  obtain ⟨_, _, g3⟩ := field_some hg hlen 3 3 22 1 rfl (by kernel_rfl)
  obtain ⟨y4, m4, g4⟩ := field_some hg hlen 4 33 23 1 rfl (by kernel_rfl)
  obtain ⟨_, _, g5⟩ := field_some hg hlen 5 3 24 1 rfl (by kernel_rfl)
  obtain ⟨ph, rfl, _⟩ := int_of g0
  obtain ⟨ex, rfl, _⟩ := int_of g3
  obtain ⟨ty, rfl, _⟩ := int_of g5
  obtain ⟨A, cp, L, rfl, hL1, hL2⟩ := items_of g4 (fun x hx => hlt x (by rw [hp]; exact List.mem_flatMap.2 ⟨y4, m4, hx⟩))
  obtain ⟨xs1, n1, _, _, _, hlen1, hg1⟩ := DataW.trod_struct Tryd.underlying28 g1
  obtain ⟨_, _, j0⟩ := field_some hg1 hlen1 0 3 0 1 rfl (by kernel_rfl)
  obtain ⟨p0, rfl, _⟩ := int_of j0
  obtain ⟨_, _, j1⟩ := field_some hg1 hlen1 1 3 1 1 rfl (by kernel_rfl)
  obtain ⟨p1, rfl, _⟩ := int_of j1
  obtain ⟨_, _, j2⟩ := field_some hg1 hlen1 2 3 2 1 rfl (by kernel_rfl)
  obtain ⟨p2, rfl, _⟩ := int_of j2
  obtain ⟨_, _, j3⟩ := field_some hg1 hlen1 3 3 3 1 rfl (by kernel_rfl)
  obtain ⟨p3, rfl, _⟩ := int_of j3
  obtain ⟨_, _, j4⟩ := field_some hg1 hlen1 4 3 4 1 rfl (by kernel_rfl)
  obtain ⟨p4, rfl, _⟩ := int_of j4
  obtain ⟨_, _, j5⟩ := field_some hg1 hlen1 5 3 5 1 rfl (by kernel_rfl)
  obtain ⟨p5, rfl, _⟩ := int_of j5
  obtain ⟨_, _, j6⟩ := field_some hg1 hlen1 6 3 6 1 rfl (by kernel_rfl)
  obtain ⟨p6, rfl, _⟩ := int_of j6
  obtain ⟨_, _, j7⟩ := field_some hg1 hlen1 7 3 7 1 rfl (by kernel_rfl)
  obtain ⟨p7, rfl, _⟩ := int_of j7
  obtain ⟨_, _, j8⟩ := field_some hg1 hlen1 8 25 8 2 rfl (by kernel_rfl)
  obtain ⟨_, _, j9⟩ := field_some hg1 hlen1 9 9 10 1 rfl (by kernel_rfl)
  obtain ⟨_, _, j10⟩ := field_some hg1 hlen1 10 9 11 1 rfl (by kernel_rfl)
  obtain ⟨_, _, j11⟩ := field_some hg1 hlen1 11 26 12 1 rfl (by kernel_rfl)
  obtain ⟨_, _, j12⟩ := field_some hg1 hlen1 12 4 13 1 rfl (by kernel_rfl)
  obtain ⟨d0, d1, e8⟩ := file_of j8
  injection e8 with e8 e9
  injection e9 with e9
  subst e8 e9
  obtain ⟨comm, rfl, hcomm⟩ := str_of j9
  obtain ⟨exe, rfl, hexe⟩ := str_of j10
  obtain ⟨os, rfl⟩ := sl_of Tryd.underlying26 j11
  obtain ⟨au, rfl⟩ := bool_of j12
  obtain ⟨xs2, n2, _, _, _, hlen2, hg2⟩ := DataW.trod_struct Tryd.underlying32 g2
  obtain ⟨_, _, k0⟩ := field_some hg2 hlen2 0 3 0 1 rfl (by kernel_rfl)
  obtain ⟨_, _, k1⟩ := field_some hg2 hlen2 1 29 1 4 rfl (by kernel_rfl)
  obtain ⟨_, _, k2⟩ := field_some hg2 hlen2 2 30 5 1 rfl (by kernel_rfl)
  obtain ⟨_, _, k3⟩ := field_some hg2 hlen2 3 30 6 1 rfl (by kernel_rfl)
  obtain ⟨nu, rfl, _⟩ := int_of k0
  obtain ⟨u0, u1, u2, u3, m, _, i0, i1, i2, i3⟩ := trod_array4 Tryd.underlying29 (by kernel_rfl) k1
  obtain ⟨a0, rfl, _⟩ := int_of i0
  obtain ⟨a1, rfl, _⟩ := int_of i1
  obtain ⟨a2, rfl, _⟩ := int_of i2
  obtain ⟨a3, rfl, _⟩ := int_of i3
  obtain ⟨ps, rfl⟩ := sl_of Tryd.underlying30 k2
  obtain ⟨gs, rfl⟩ := sl_of Tryd.underlying30 k3
  exact ⟨⟨ph, fun j => if j = 0 then p0 else if j = 1 then p1 else if j = 2 then p2 else if j = 3 then p3 else if j = 4 then p4 else if j = 5 then p5 else if j = 6 then p6 else p7, fun j => if j = 0 then a0 else if j = 1 then a1 else if j = 2 then a2 else a3, ex, ty, comm, exe⟩, ⟨d0, d1, os, au, nu, ps, gs⟩, A, cp, L, rfl, hL1, hL2, hexe, hcomm⟩
end
end Go.Proofs.YtnpaoepkpdileaaDoor

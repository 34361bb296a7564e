/- Slices of structs in memory, whatever the struct. -/
import Derived.Test.YtollifnnpihfdaaDoorBlk
import Derived.Test.YtollifnnpihfdaaDoorSrc2
import Derived.Maps.AppendAt
import Derived.DataElems
import Derived.Deep.RegionLaw
import Derived.Deep.RegionWith
import Derived.Deep.DeepCutAuto
import Derived.Deep.CutBlock
namespace Go.Proofs.YtollifnnpihfdaaDoor
open Go.RowKit
/-- A kind of element: its cells, its types. -/
structure El (α : Type) where
  C : α → List Value
  e : TypeId
  sl : TypeId
  sz : Nat
  bs : Nat
  len : ∀ a, (C a).length = sz
  one : ∀ a, ∀ u ∈ C a, u.oneCell' = true
  pos : 0 < sz
  small : bs ≤ 1000
  hu : Tryd.prog.underlying sl = some (.slice e)
  info : ∃ (i0 : TypeInfo) (z : Value), Tryd.prog.info? e = some i0 ∧ i0.zero = some z ∧ i0.size = sz ∧ i0.bytes = bs ∧ z.cells.size = sz
section
variable {α : Type} {E : El α} {w w' : World} {B B' base lo : Nat} {A : Option Addr} {v : Value} {L M : List α}
theorem El.flat (E : El α) (L : List α) : (L.flatMap E.C).length = L.length * E.sz := by
  induction L with
  | nil => simp
  | cons a L ih => rw [List.flatMap_cons, List.length_append, ih, E.len, List.length_cons, Nat.succ_mul]; omega
theorem El.flat_at (E : El α) : ∀ (L : List α) (k : Nat) (hk : k < L.length) (j : Nat), j < E.sz → (L.flatMap E.C)[k * E.sz + j]? = (E.C (L[k]'hk))[j]?
  | [], k, hk, _, _ => by simp at hk
  | p :: L, 0, _, j, hj => by
    rw [List.flatMap_cons, List.getElem?_append_left (by rw [E.len]; omega)]
    simp
  | p :: L, k + 1, hk, j, hj => by
    have ih := E.flat_at L k (by simp at hk; omega) j hj
    have e : (k + 1) * E.sz + j = E.sz + (k * E.sz + j) := by rw [Nat.succ_mul]; omega
    rw [List.flatMap_cons, e, List.getElem?_append_right (by rw [E.len]; omega), E.len, show E.sz + (k * E.sz + j) - E.sz = k * E.sz + j by omega, ih]
    simp
/-- The slice at A reads as L; it lies below block B. -/
def AtE (E : El α) (w : World) (B : Nat) (A : Option Addr) (L : List α) : Prop := ∀ k (hk : k < L.length), ∃ ad : Addr, A = some ad ∧ ad.block < B ∧ ∀ j, j < E.sz → w.cell? ((ad.add (k * E.sz)).add j) = (E.C (L[k]'hk))[j]?
theorem addE_block (a : Addr) (n : Nat) : (a.add n).block = a.block := by unfold Addr.add; split <;> rfl
theorem AtE.keep (h : AtE E w B A L) (hb : Below B' w w') (hB : B ≤ B') : AtE E w' B A L := fun k hk => by
  obtain ⟨ad, e, hl, hc⟩ := h k hk
  exact ⟨ad, e, hl, fun j hj => (hb.cell (by rw [addE_block, addE_block]; omega)).trans (hc j hj)⟩
theorem AtE.more (h : AtE E w B A L) (hB : B ≤ B') : AtE E w B' A L := fun k hk => by
  obtain ⟨ad, e, hl, hc⟩ := h k hk
  exact ⟨ad, e, by omega, hc⟩
theorem AtE.below (h : AtE E w w.heap.size A L) (hb : Below w.heap.size w w') : AtE E w' w'.heap.size A L := (h.keep hb (Nat.le_refl _)).more hb.size
theorem AtE.nil : AtE E w B A [] := fun k hk => by simp at hk
/-- A slice of the call's own that reads as L. -/
def OwnE (E : El α) (w : World) (base : Nat) (v : Value) (L : List α) : Prop := w.ownsRow base E.e E.sz v L.length (L.flatMap E.C)
theorem OwnE.nil (w : World) (base : Nat) : OwnE E w base (.slice none 0 0) [] := World.ownsRow_nil _ _ _ _
theorem OwnE.alloc (h : OwnE E w base v L) (o : Obj) : OwnE E (w.alloc o) base v L := World.ownsRow.alloc h o
theorem OwnE.ge (h : OwnE E w base v L) : ∀ r, v.ownBlock = some r → base ≤ r := fun r hr => (World.ownsRow.lt h r hr).1
theorem OwnE.lt (h : OwnE E w base v L) : ∀ r, v.ownBlock = some r → r < w.heap.size := fun r hr => (World.ownsRow.lt h r hr).2
theorem OwnE.below (h : OwnE E w base v L) (hb : Below w.heap.size w w') : OwnE E w' base v L :=
  World.ownsRow.kept (row := none) h ⟨hb.os, hb.tape, hb.output, hb.size, fun i hi _ => hb.block i hi⟩ (by
    cases hv : v.ownBlock with
    | none => exact .inl rfl
    | some k => exact .inr (by simp))
theorem OwnE.far (h : OwnE E w base v L) {row : Option Nat} (hg : w.grownBy w' row) (hne : ∀ k, v.ownBlock = some k → row ≠ some k) : OwnE E w' base v L :=
  World.ownsRow.kept h hg (by
    cases hv : v.ownBlock with
    | none => exact .inl rfl
    | some k => right; intro e; exact hne k hv e.symm)
theorem OwnE.farCell (h : OwnE E w base v L) {g i : Nat} (hne : v.ownBlock ≠ some g) (u : Value) : OwnE E (w.setCell ⟨g, i, none⟩ u) base v L :=
  h.far (row := some g) ⟨rfl, rfl, rfl, by simp [World.setCell], fun k _ hk => Below.heap_setCell _ _ _ _ (fun e => hk (by rw [e]))⟩ (fun k hk e => hne (by rw [hk]; exact e.symm))
theorem OwnE.farRow (h : OwnE E w base v L) {g : Nat} (hne : v.ownBlock ≠ some g) (cs : Array Value) : OwnE E (w.setRow g cs) base v L :=
  h.far (row := some g) ⟨rfl, rfl, rfl, by rw [setRow_size]; exact Nat.le_refl _, fun i _ hne => setRow_other _ g i cs (fun e => hne (by rw [e]))⟩ (fun k hk e => hne (by rw [hk]; exact e.symm))
theorem OwnE.low (h : OwnE E w lo v L) (hb : base ≤ lo) : OwnE E w base v L := Joins.ownsRow_le h hb
theorem addE_at (g a b : Nat) : ((⟨g, 0, none⟩ : Addr).add a).add b = ⟨g, a + b, none⟩ := by
  unfold Addr.add
  split
  · split
    · subst_vars; rfl
    · subst_vars; simp
  · split
    · subst_vars; simp
    · simp
theorem addE_zero (g n : Nat) : (⟨g, 0, none⟩ : Addr).add n = ⟨g, n, none⟩ := by
  unfold Addr.add
  split
  · subst_vars; rfl
  · simp
theorem OwnE.at (h : OwnE E w base v L) : ∃ A c, v = .slice A L.length c ∧ AtE E w w.heap.size A L := by
  rcases Joins.ownsRow_forms h with ⟨rfl, h0⟩ | ⟨g, cap, rfl⟩
  · have : L = [] := List.eq_nil_of_length_eq_zero h0
    subst this
    exact ⟨none, 0, rfl, AtE.nil⟩
  · refine ⟨_, cap, rfl, fun k hk => ⟨_, rfl, (World.ownsRow.lt h g rfl).2, fun j hj => ?_⟩⟩
    have hf := E.flat_at L k hk j hj
    have hs : j < (E.C (L[k]'hk)).length := by rw [E.len]; exact hj
    rw [List.getElem?_eq_getElem hs] at hf ⊢
    have hc := World.ownsRow.cells h (g := g) rfl (k * E.sz + j) _ hf
    rw [addE_zero] at hc
    rw [addE_at]
    exact hc
theorem run_append_el (E : El α) (w : World) (base : Nat) (ty : TypeId) (v : Value) (L : List α) (B : Nat) (A : Option Addr) (n c : Nat) (M : List α) (hn : n = M.length) (hown : OwnE E w base v L) (hr : AtE E w B A M) (hlen : L.length + M.length ≤ 1000000) (hbase : base ≤ w.heap.size) :
    ∃ v' w', (Builtin.append_ #[E.sl, E.sl] ty #[v, .slice A n c]).run Tryd.prog w = .ok v' w' ∧ OwnE E w' base v' (L ++ M) ∧ w.grownBy w' v.ownBlock ∧ (v'.ownBlock = v.ownBlock ∨ v'.ownBlock = some w.heap.size) := by
  subst hn
  have h := hown
  obtain ⟨i0, z, hi, hz, hs, hb, hzs⟩ := E.info
  rcases A with _ | ad
  · have hM : M = [] := by
      cases M with
      | nil => rfl
      | cons s r => obtain ⟨ad, e, _⟩ := hr 0 (by simp); cases e
    subst hM
    refine ⟨v, w, ?_, by simpa using hown, World.grownBy.refl w _, .inl rfl⟩
    rcases h.2 with ⟨rfl, _⟩ | ⟨g, cap, cur, rfl, _, _, hnc, _⟩
    · simp [Builtin.append_, run_underlying E.hu, sizeOf, typeInfo, hi, Builtin.lenOf, Builtin.firstCells]
    · simp [Builtin.append_, run_underlying E.hu, sizeOf, typeInfo, hi, Builtin.lenOf, Builtin.firstCells, hnc, storeCells]
  · obtain ⟨v', w', hrun, h2, h3, _, h5⟩ := run_append_own_at (P := Tryd.prog) w base E.sl ty E.e i0 z E.sz E.bs E.hu hi hz hs hb hzs E.pos v L.length _ h ad M.length c (M.flatMap E.C) (E.flat M) (fun j u hu => by
      have hj : j < M.length * E.sz := by have := (List.getElem?_eq_some_iff.1 hu).1; rwa [E.flat] at this
      have hk : j / E.sz < M.length := Nat.div_lt_of_lt_mul (by rw [Nat.mul_comm]; exact hj)
      have e : j = j / E.sz * E.sz + j % E.sz := by rw [Nat.mul_comm]; exact (Nat.div_add_mod j E.sz).symm
      have hm : j % E.sz < E.sz := Nat.mod_lt _ E.pos
      obtain ⟨ad', e', _, hc⟩ := hr (j / E.sz) hk
      cases e'
      have h2 := hc (j % E.sz) hm
      rw [Addr.add_add, ← e] at h2
      rw [h2]
      have h3 := E.flat_at M (j / E.sz) hk (j % E.sz) hm
      rw [← e] at h3
      rw [← h3]; exact hu) (by
      intro u hu
      obtain ⟨t, _, ht⟩ := List.mem_flatMap.1 hu
      exact E.one t u ht) (by unfold maxLen; omega) (by
        have h1 : (L.length + M.length) * E.bs ≤ 1000000 * 1000 := Nat.mul_le_mul hlen E.small
        omega) hbase
    refine ⟨v', w', hrun, ?_, h3, h5⟩
    show w'.ownsRow base E.e E.sz v' (L ++ M).length ((L ++ M).flatMap E.C)
    rw [List.length_append, List.flatMap_append]
    exact h2
/-- The slice of one element that append is handed. -/
theorem row_newE (E : El α) (w : World) (cs : Array Value) (t : TypeId) (x : α) (h : cs.toList = E.C x) (hB : w.heap.size < B) : AtE E (w.alloc (.cells cs t)) B (some ⟨w.heap.size, 0, none⟩) [x] := fun k hk => by
  have hk0 : k = 0 := by simpa using hk
  subst hk0
  refine ⟨_, rfl, hB, fun j hj => ?_⟩
  rw [Nat.zero_mul, addE_at, (Blk.new w cs t).cell, Nat.zero_add, ← Array.getElem?_toList, h]
  rfl
theorem wpList_append_el (E : El α) {ops : Array Oper} {rest : List Oper} {o : Oper} {a : Act} {Q : Exit → Act → World → Prop} (hgd : o.guard = none) (s x : Operand) (ho : o.op = .call { callee := .builtin .append, args := #[s, x], argTypes := #[E.sl, E.sl] })
    (base : Nat) (v : Value) (L : List α) (hs : a.eval s = v) (hown : OwnE E w base v L) (B : Nat) (A : Option Addr) (n c : Nat) (M : List α) (hx : a.eval x = .slice A n c) (hn : n = M.length) (hr : AtE E w B A M) (hlen : L.length + M.length ≤ 1000000) (hbase : base ≤ w.heap.size)
    (h : ∀ v' w', OwnE E w' base v' (L ++ M) → w.grownBy w' v.ownBlock → (v'.ownBlock = v.ownBlock ∨ v'.ownBlock = some w.heap.size) → wpList Tryd.prog ops Q rest (a.put o.dst v') w') : wpList Tryd.prog ops Q (o :: rest) a w :=
  wpList_plain hgd fun K hK => by
    obtain ⟨v', w', hrun, h2, h3, h4⟩ := run_append_el E w base o.type v L B A n c M hn hown hr hlen hbase
    unfold Oper.wp execOp
    simp only [ho, resolve, invoke, builtin, Sem.run_bind, Sem.run_pure, Result.andThen_ok, List.map_toArray, List.map_cons, List.map_nil, hs, hx, hrun]
    exact hK _ _ (h v' w' h2 h3 h4)
theorem step_append_el (E : El α) {ops : Array Oper} {o : Oper} {a : Act} {K : Act → World → Prop} {Q : Exit → Act → World → Prop} {F : Prop} (hgd : o.guard = none) (s x : Operand) (ho : o.op = .call { callee := .builtin .append, args := #[s, x], argTypes := #[E.sl, E.sl] })
    (base : Nat) (v : Value) (L : List α) (hs : a.eval s = v) (hown : OwnE E w base v L) (B : Nat) (A : Option Addr) (n c : Nat) (M : List α) (hx : a.eval x = .slice A n c) (hn : n = M.length) (hr : AtE E w B A M) (hlen : L.length + M.length ≤ 1000000) (hbase : base ≤ w.heap.size)
    (h : ∀ v' w', OwnE E w' base v' (L ++ M) → w.grownBy w' v.ownBlock → (v'.ownBlock = v.ownBlock ∨ v'.ownBlock = some w.heap.size) → K (a.put o.dst v') w') :
    if Region.wanted o (yielded ops a.tmps) = true then Oper.wp Tryd.prog o a w K Q else F := by
  have hw : Region.wanted o (yielded ops a.tmps) = true := by simp [Region.wanted, hgd]
  rw [if_pos hw]
  obtain ⟨v', w', hrun, h2, h3, h4⟩ := run_append_el E w base o.type v L B A n c M hn hown hr hlen hbase
  unfold Oper.wp execOp
  simp only [ho, resolve, invoke, builtin, Sem.run_bind, Sem.run_pure, Result.andThen_ok, List.map_toArray, List.map_cons, List.map_nil, hs, hx, hrun]
  exact h v' w' h2 h3 h4
end
end Go.Proofs.YtollifnnpihfdaaDoor

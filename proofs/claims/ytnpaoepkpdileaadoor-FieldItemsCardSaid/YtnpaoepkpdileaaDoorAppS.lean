/- append of a slice of strings, nil or not, to strings of the call's own. -/
import Derived.Test.YtnpaoepkpdileaaDoorWords
import Derived.Deep.DrawnRows
import Derived.Deep.RegionHeld3
import Derived.Maps.AppendAt
namespace Go.Proofs.YtnpaoepkpdileaaDoor
open Go.RowKit
theorem run_append_strs (w : World) (base : Nat) (ty : TypeId) (v : Value) (L : List ByteArray) (B : Nat) (A : Option Addr) (n c : Nat) (ss : List ByteArray) (hn : n = ss.length) (hown : OwnS w base v L) (hr : StrsAt w B A ss) (hlen : L.length + ss.length ≤ 1000000) (hbase : base ≤ w.heap.size) :
    ∃ v' w', (Builtin.append_ #[30, 30] ty #[v, .slice A n c]).run Tryd.prog w = .ok v' w' ∧ OwnS w' base v' (L ++ ss) ∧ w.grownBy w' v.ownBlock ∧ (v'.ownBlock = v.ownBlock ∨ v'.ownBlock = some w.heap.size) := by
  subst hn
  obtain ⟨i0, hi, hz0, hz1, hz2⟩ := info_parts Tryd.infoS
  have h := hown.out
  rcases A with _ | ad
  · have hss : ss = [] := by
      cases ss with
      | nil => rfl
      | cons s r => obtain ⟨ad, e, _⟩ := hr 0 (by simp); cases e
    subst hss
    refine ⟨v, w, ?_, by simpa using hown, World.grownBy.refl w _, .inl rfl⟩
    rcases h.2 with ⟨rfl, _⟩ | ⟨g, cap, cur, rfl, _, _, hnc, _⟩
    · simp [Builtin.append_, run_underlying Tryd.underlying30, sizeOf, typeInfo, hi, Builtin.lenOf, Builtin.firstCells]
    · simp [Builtin.append_, run_underlying Tryd.underlying30, sizeOf, typeInfo, hi, Builtin.lenOf, Builtin.firstCells, hnc, storeCells]
  · obtain ⟨v', w', hrun, h2, h3, _, h5⟩ := run_append_own_at (P := Tryd.prog) w base 30 ty 9 i0 _ 1 16 Tryd.underlying30 hi hz0 hz1 hz2 rfl (by omega) v L.length _ h ad ss.length c (ss.map Value.string) (by simp) (fun j u hu => by
      have hj : j < ss.length := by have := (List.getElem?_eq_some_iff.1 hu).1; simpa using this
      obtain ⟨ad', e, _, hc⟩ := hr j hj
      cases e
      rw [hc, ← hu, List.getElem?_map, List.getElem?_eq_getElem hj]; rfl) (by
      intro u hu
      obtain ⟨s, _, rfl⟩ := List.mem_map.1 hu
      rfl) (by unfold maxLen; omega) (by omega) hbase
    refine ⟨v', w', hrun, ?_, h3, h5⟩
    show w'.ownsRow base 9 1 v' (L ++ ss).length ((L ++ ss).map Value.string)
    simpa using h2
theorem wp_append_strs {o : Oper} {a : Act} {w : World} {K : Act → World → Prop} {Q : Exit → Act → World → Prop} (s x : Operand) (ho : o.op = .call { callee := .builtin .append, args := #[s, x], argTypes := #[30, 30] })
    (base : Nat) (v : Value) (L : List ByteArray) (hs : a.eval s = v) (hown : OwnS w base v L) (B : Nat) (A : Option Addr) (n c : Nat) (ss : List ByteArray) (hx : a.eval x = .slice A n c) (hn : n = ss.length) (hr : StrsAt w B A ss) (hlen : L.length + ss.length ≤ 1000000) (hbase : base ≤ w.heap.size)
    (h : ∀ v' w', OwnS w' base v' (L ++ ss) → w.grownBy w' v.ownBlock → (v'.ownBlock = v.ownBlock ∨ v'.ownBlock = some w.heap.size) → K (a.put o.dst v') w') : o.wp Tryd.prog a w K Q := by
  obtain ⟨v', w', hrun, h2, h3, h4⟩ := run_append_strs w base o.type v L B A n c ss hn hown hr hlen hbase
  unfold Oper.wp execOp
  simp only [ho, resolve, invoke, builtin, Sem.run_bind, Sem.run_pure, Result.andThen_ok, List.map_toArray, List.map_cons, List.map_nil, hs, hx, hrun]
  exact h v' w' h2 h3 h4
theorem wpList_append_strs {ops : Array Oper} {rest : List Oper} {o : Oper} {a : Act} {w : World} {Q : Exit → Act → World → Prop} (hgd : o.guard = none) (s x : Operand) (ho : o.op = .call { callee := .builtin .append, args := #[s, x], argTypes := #[30, 30] })
    (base : Nat) (v : Value) (L : List ByteArray) (hs : a.eval s = v) (hown : OwnS w base v L) (B : Nat) (A : Option Addr) (n c : Nat) (ss : List ByteArray) (hx : a.eval x = .slice A n c) (hn : n = ss.length) (hr : StrsAt w B A ss) (hlen : L.length + ss.length ≤ 1000000) (hbase : base ≤ w.heap.size)
    (h : ∀ v' w', OwnS w' base v' (L ++ ss) → w.grownBy w' v.ownBlock → (v'.ownBlock = v.ownBlock ∨ v'.ownBlock = some w.heap.size) → wpList Tryd.prog ops Q rest (a.put o.dst v') w') : wpList Tryd.prog ops Q (o :: rest) a w :=
  wpList_plain hgd fun _ hK => wp_append_strs s x ho base v L hs hown B A n c ss hx hn hr hlen hbase fun v' w' h2 h3 h4 => hK _ _ (h v' w' h2 h3 h4)
theorem step_append_strs {ops : Array Oper} {o : Oper} {a : Act} {w : World} {K : Act → World → Prop} {Q : Exit → Act → World → Prop} {E : Prop} (hgd : o.guard = none) (s x : Operand) (ho : o.op = .call { callee := .builtin .append, args := #[s, x], argTypes := #[30, 30] })
    (base : Nat) (v : Value) (L : List ByteArray) (hs : a.eval s = v) (hown : OwnS w base v L) (B : Nat) (A : Option Addr) (n c : Nat) (ss : List ByteArray) (hx : a.eval x = .slice A n c) (hn : n = ss.length) (hr : StrsAt w B A ss) (hlen : L.length + ss.length ≤ 1000000) (hbase : base ≤ w.heap.size)
    (h : ∀ v' w', OwnS w' base v' (L ++ ss) → w.grownBy w' v.ownBlock → (v'.ownBlock = v.ownBlock ∨ v'.ownBlock = some w.heap.size) → K (a.put o.dst v') w') :
    if Region.wanted o (yielded ops a.tmps) = true then Oper.wp Tryd.prog o a w K Q else E := by
  have hw : Region.wanted o (yielded ops a.tmps) = true := by simp [Region.wanted, hgd]
  rw [if_pos hw]
  exact wp_append_strs s x ho base v L hs hown B A n c ss hx hn hr hlen hbase h
theorem StrsAt.grown {w w' : World} {B : Nat} {A : Option Addr} {ss : List ByteArray} (h : StrsAt w B A ss) {row : Option Nat} (hg : w.grownBy w' row) (hB : B ≤ w.heap.size) (hr : ∀ r, row = some r → B ≤ r) : StrsAt w' B A ss := fun k hk => by
  obtain ⟨ad, e, hl, hc⟩ := h k hk
  exact ⟨ad, e, hl, (World.cell?_of_block (hg.block _ (by rw [strs_block]; omega) (fun e => by have := hr _ e.symm; rw [strs_block] at this; omega))).trans hc⟩
theorem cell_grown {w w' : World} {row : Option Nat} {p : Addr} {v : Value} (hg : w.grownBy w' row) (h : w.cell? p = some v) (hne : ∀ r, row = some r → r ≠ p.block) : w'.cell? p = some v :=
  (World.cell?_of_block (hg.block _ (block_lt_of_cell h) (fun e => hne _ e.symm rfl))).trans h
theorem OwnS.ge {w : World} {base : Nat} {v : Value} {L : List ByteArray} (h : OwnS w base v L) : ∀ r, v.ownBlock = some r → base ≤ r := fun r hr => (World.ownsRow.lt h r hr).1
theorem OwnS.strs {w : World} {base : Nat} {v : Value} {L : List ByteArray} (h : OwnS w base v L) : ∃ A c, v = .slice A L.length c ∧ StrsAt w w.heap.size A L := by
  rcases Joins.ownsRow_forms h.out with ⟨rfl, h0⟩ | ⟨g, cap, rfl⟩
  · have : L = [] := List.eq_nil_of_length_eq_zero h0
    subst this
    exact ⟨none, 0, rfl, StrsAt.nil⟩
  · refine ⟨_, cap, rfl, fun k hk => ⟨_, rfl, (h.out.lt g rfl).2, ?_⟩⟩
    exact World.ownsRow.cells h (g := g) rfl k _ (by rw [List.getElem?_map, List.getElem?_eq_getElem hk]; rfl)
end Go.Proofs.YtnpaoepkpdileaaDoor

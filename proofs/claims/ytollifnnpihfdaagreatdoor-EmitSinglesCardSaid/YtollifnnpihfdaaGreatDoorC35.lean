/- Texts of one proof, laid together. -/
import Derived.Test.YtollifnnpihfdaaGreatDoorC33
import Derived.Test.YtollifnnpihfdaaGreatDoorC34
import Derived.Test.YtollifnnpihfdaaGreatDoorC30
import Derived.Laws.BitsAllLaws
/- The source of numbers of package kauditmake: Context. -/
namespace Go.Proofs.YtollifnnpihfdaaGreatDoor
open Go.RowKit
theorem ctx_one (c : Ctx) (r : CRest) (A : Option Addr) (n cp : Nat) : (ctxC c r (.slice A n cp)).all (·.oneCell') = true := by simp [ctxC, Value.oneCell']
theorem ctx_old (c : Ctx) (r : CRest) (it : Value) : zeroX.size = (ctxC c r it).size := rfl
/-- A slice of the call's own that reads as items. -/
def OwnI (w : World) (base : Nat) (v : Value) (L : List (Itm × IRest)) : Prop := w.ownsRow base 73 13 v L.length (L.flatMap fun p => (itemC p.1 p.2).toList)
theorem OwnI.nil (w : World) (base : Nat) : OwnI w base (.slice none 0 0) [] := World.ownsRow_nil _ _ _ _
theorem OwnI.alloc {w : World} {base : Nat} {v : Value} {L : List (Itm × IRest)} (h : OwnI w base v L) (o : Obj) : OwnI (w.alloc o) base v L := World.ownsRow.alloc h o
theorem OwnI.ge {w : World} {base : Nat} {v : Value} {L : List (Itm × IRest)} (h : OwnI w base v L) : ∀ r, v.ownBlock = some r → base ≤ r := fun r hr => (World.ownsRow.lt h r hr).1
theorem OwnI.only {w w' : World} {lo : Nat} {v : Value} {L : List (Itm × IRest)} (h : OwnI w lo v L) {g : Nat} (hg : w.grownBy w' (some g)) (hlt : g < lo) : OwnI w' lo v L :=
  World.ownsRow.kept h hg (by
    cases hv : v.ownBlock with
    | none => exact .inl rfl
    | some k => right; intro e; injection e with e; have := h.ge k hv; omega)
theorem OwnI.setCell {w : World} {lo : Nat} {v : Value} {L : List (Itm × IRest)} (h : OwnI w lo v L) {p : Addr} (hp : p.block < lo) (u : Value) : OwnI (w.setCell p u) lo v L := ownsRow_setCell_below h hp u
theorem OwnI.row {w : World} {lo g : Nat} {v : Value} {L : List (Itm × IRest)} (h : OwnI w lo v L) (hg : g < lo) (cs : Array Value) : OwnI (w.setRow g cs) lo v L :=
  World.ownsRow.kept h (row := some g) ⟨rfl, rfl, rfl, by rw [setRow_size]; exact Nat.le_refl _, fun i _ hne => setRow_other _ g i cs (fun e => hne (by rw [e]))⟩ (by
    cases hv : v.ownBlock with
    | none => exact .inl rfl
    | some k => right; intro e; injection e with e; have := h.ge k hv; omega)
theorem OwnI.low {w : World} {lo lo' : Nat} {v : Value} {L : List (Itm × IRest)} (h : OwnI w lo v L) (hb : lo' ≤ lo) : OwnI w lo' v L := Joins.ownsRow_le h hb
theorem item_len (i : Itm) (r : IRest) : (itemC i r).toList.length = 13 := rfl
theorem flat_at : ∀ (L : List (Itm × IRest)) (k : Nat) (hk : k < L.length) (j : Nat), j < 13 → (L.flatMap fun p => (itemC p.1 p.2).toList)[k * 13 + j]? = (itemC (L[k]'hk).1 (L[k]'hk).2)[j]?
  | [], k, hk, _, _ => by simp at hk
  | p :: L, 0, _, j, hj => by
    rw [List.flatMap_cons, List.getElem?_append_left (by rw [item_len]; omega)]
    simp
  | p :: L, k + 1, hk, j, hj => by
    have ih := flat_at L k (by simp at hk; omega) j hj
    rw [List.flatMap_cons, List.getElem?_append_right (by rw [item_len]; omega), item_len, show (k + 1) * 13 + j - 13 = k * 13 + j by omega, ih]
    simp
theorem add_at (g a b : Nat) : ((⟨g, 0, none⟩ : Addr).add a).add b = ⟨g, a + b, none⟩ := by
  unfold Addr.add
  split
  · split
    · subst_vars; rfl
    · subst_vars; simp
  · split
    · subst_vars; simp
    · simp
theorem add_zero (g n : Nat) : (⟨g, 0, none⟩ : Addr).add n = ⟨g, n, none⟩ := by
  unfold Addr.add
  split
  · subst_vars; rfl
  · simp
theorem OwnI.items {w : World} {base : Nat} {v : Value} {L : List (Itm × IRest)} (h : OwnI w base v L) : ∃ A c, v = .slice A L.length c ∧ ItemsAt w w.heap.size A L := by
  rcases Joins.ownsRow_forms h with ⟨rfl, h0⟩ | ⟨g, cap, rfl⟩
  · have : L = [] := List.eq_nil_of_length_eq_zero h0
    subst this
    exact ⟨none, 0, rfl, ItemsAt.nil⟩
  · refine ⟨_, cap, rfl, fun k hk => ⟨_, rfl, (World.ownsRow.lt h g rfl).2, fun j hj => ?_⟩⟩
    have hf := flat_at L k hk j hj
    have hs : j < (itemC (L[k]'hk).1 (L[k]'hk).2).size := hj
    rw [Array.getElem?_eq_getElem hs] at hf ⊢
    have hc := World.ownsRow.cells h (g := g) rfl (k * 13 + j) _ hf
    rw [add_zero] at hc
    rw [add_at]
    exact hc
theorem Tryz.infoI : (Tryz.prog.info? 73).map (fun i => (i.zero, i.size, i.bytes)) = some (some (.agg zeroI), 13, 128) := by kernel_rfl
theorem row_new (w : World) (cs : Array Value) (t : TypeId) (j : Nat) (u : Value) (h : cs.toList[j]? = some u) : (w.alloc (.cells cs t)).cell? ((⟨w.heap.size, 0, none⟩ : Addr).add j) = some u := by
  rw [add_zero, (Blk.new w cs t).cell]
  simpa using h
theorem step_append_item {ops : Array Oper} {o : Oper} {a : Act} {w : World} {K : Act → World → Prop} {Q : Exit → Act → World → Prop} {E : Prop} (hgd : o.guard = none) (s x : Operand) (ho : o.op = .call { callee := .builtin .append, args := #[s, x], argTypes := #[52, 52] })
    (base : Nat) (v : Value) (L : List (Itm × IRest)) (hs : a.eval s = v) (hown : OwnI w base v L) (ad : Addr) (i : Itm) (r : IRest) (hx : a.eval x = .slice (some ad) 1 1) (hr : ∀ j u, (itemC i r).toList[j]? = some u → w.cell? (ad.add j) = some u) (hlen : L.length ≤ 1000) (hbase : base ≤ w.heap.size)
    (h : ∀ v' w', OwnI w' base v' (L ++ [(i, r)]) → w.grownBy w' v.ownBlock → (v' = .slice none 0 0 ↔ v = .slice none 0 0 ∧ 1 = 0) → K (a.put o.dst v') w') :
    if Region.wanted o (yielded ops a.tmps) = true then Oper.wp Tryz.prog o a w K Q else E := by
  have hw : Region.wanted o (yielded ops a.tmps) = true := by simp [Region.wanted, hgd]
  rw [if_pos hw]
  obtain ⟨i0, hi, hz0, hz1, hz2⟩ := info_parts Tryz.infoI
  obtain ⟨v', w', hrun, h2, h3, h4⟩ := run_append_own (P := Tryz.prog) w base 52 o.type 73 i0 _ 13 128 Tryz.underlying52 hi hz0 hz1 hz2 rfl (by omega) v L.length _ hown ad 1 1 (itemC i r).toList rfl hr (by
      intro u hu
      have := item_one i r
      rw [← Array.all_toList, List.all_eq_true] at this
      exact this u hu) (by unfold maxLen; omega) (by omega) hbase
  unfold Oper.wp execOp
  simp only [ho, resolve, invoke, builtin, Sem.run_bind, Sem.run_pure, Result.andThen_ok, List.map_toArray, List.map_cons, List.map_nil, hs, hx, hrun]
  exact h v' w' (by
    show w'.ownsRow base 73 13 v' (L ++ [(i, r)]).length ((L ++ [(i, r)]).flatMap fun p => (itemC p.1 p.2).toList)
    rw [List.length_append, List.flatMap_append]
    simpa using h2) h3 h4
/-- What the making of a context keeps: the source, the context so far, the block of the result. -/
structure K1 (w wr : World) (base g : Nat) (b : Int) (gc : Nat) (c : Ctx) (r : CRest) (it : Value) : Prop where
  only : w.grownBy wr (some g)
  src : SrcOk wr base g b
  rb : Blk wr w.heap.size 54 zeroX
  cb : Blk wr gc 54 (ctxC c r it)
  h2 : w.heap.size < gc
  h3 : g < w.heap.size
  h4 : base ≤ w.heap.size
section
variable {w wr w' : World} {base g gc : Nat} {b b' : Int} {c : Ctx} {r : CRest} {it : Value}
theorem K1.more (h : K1 w wr base g b gc c r it) (hb : b ≤ b') : K1 w wr base g b' gc c r it := ⟨h.only, h.src.more hb, h.rb, h.cb, h.h2, h.h3, h.h4⟩
theorem K1.alloc (h : K1 w wr base g b gc c r it) (o : Obj) : K1 w (wr.alloc o) base g b gc c r it := ⟨only_alloc h.only o, h.src.alloc o, h.rb.alloc o, h.cb.alloc o, h.h2, h.h3, h.h4⟩
theorem K1.drew (h : K1 w wr base g b gc c r it) : K1 w wr.drew base g b gc c r it := ⟨⟨h.only.os, h.only.tape, h.only.output, h.only.size, h.only.block⟩, h.src.drew, h.rb, h.cb, h.h2, h.h3, h.h4⟩
theorem K1.step (h : K1 w wr base g b gc c r it) (hs : SrcOk w' base g b') (hg : wr.grownBy w' (some g)) : K1 w w' base g b' gc c r it := ⟨h.only.trans hg, hs, h.rb.grown hg (fun e => by injection e with e; have := h.h3; omega), h.cb.grown hg (fun e => by injection e with e; have := h.h2; have := h.h3; omega), h.h2, h.h3, h.h4⟩
theorem K1.grown (h : K1 w wr base g b gc c r it) {row : Option Nat} (hg : wr.grownBy w' row) (hr : ∀ r, row = some r → gc < r) : K1 w w' base g b gc c r it :=
  ⟨⟨hg.os.trans h.only.os, hg.tape.trans h.only.tape, hg.output.trans h.only.output, Nat.le_trans h.only.size hg.size, fun i hi hne => (hg.block i (Nat.lt_of_lt_of_le hi h.only.size) (fun e => by have := hr i e.symm; have := h.h2; omega)).trans (h.only.block i hi hne)⟩,
    h.src.grown hg (fun r e => by have := hr r e; have := h.h2; have := h.h3; have := h.h4; omega), h.rb.grown hg (fun e => by have := hr _ e; have := h.h2; omega), h.cb.grown hg (fun e => by have := hr gc e; omega), h.h2, h.h3, h.h4⟩
theorem K1.ph (h : K1 w wr base g b gc c r it) (x : Int) : K1 w (wr.setCell ⟨gc, 0, none⟩ (.int .i64 x)) base g b gc { c with ph := x } r it := ⟨only_setCell h.only (.inr (by show w.heap.size ≤ gc; have := h.h2; omega)) _, h.src.setCell (by show base ≤ gc; have := h.h2; have := h.h4; omega) (by show gc ≠ g; have := h.h2; have := h.h3; omega) _, h.rb.put_other _ (by show w.heap.size ≠ gc; have := h.h2; omega), h.cb.put 0 (.int .i64 x), h.h2, h.h3, h.h4⟩
theorem K1.ex (h : K1 w wr base g b gc c r it) (x : Int) : K1 w (wr.setCell ⟨gc, 22, none⟩ (.int .i64 x)) base g b gc { c with ex := x } r it := ⟨only_setCell h.only (.inr (by show w.heap.size ≤ gc; have := h.h2; omega)) _, h.src.setCell (by show base ≤ gc; have := h.h2; have := h.h4; omega) (by show gc ≠ g; have := h.h2; have := h.h3; omega) _, h.rb.put_other _ (by show w.heap.size ≠ gc; have := h.h2; omega), h.cb.put 22 (.int .i64 x), h.h2, h.h3, h.h4⟩
theorem K1.ty (h : K1 w wr base g b gc c r it) (x : Int) : K1 w (wr.setCell ⟨gc, 24, none⟩ (.int .i64 x)) base g b gc { c with ty := x } r it := ⟨only_setCell h.only (.inr (by show w.heap.size ≤ gc; have := h.h2; omega)) _, h.src.setCell (by show base ≤ gc; have := h.h2; have := h.h4; omega) (by show gc ≠ g; have := h.h2; have := h.h3; omega) _, h.rb.put_other _ (by show w.heap.size ≠ gc; have := h.h2; omega), h.cb.put 24 (.int .i64 x), h.h2, h.h3, h.h4⟩
theorem K1.sit (h : K1 w wr base g b gc c r it) (x : Value) : K1 w (wr.setCell ⟨gc, 23, none⟩ x) base g b gc c r x := ⟨only_setCell h.only (.inr (by show w.heap.size ≤ gc; have := h.h2; omega)) _, h.src.setCell (by show base ≤ gc; have := h.h2; have := h.h4; omega) (by show gc ≠ g; have := h.h2; have := h.h3; omega) _, h.rb.put_other _ (by show w.heap.size ≠ gc; have := h.h2; omega), h.cb.put 23 x, h.h2, h.h3, h.h4⟩
end
theorem ctx_new (ph : Int) (p : Nat → Int) (comm exe : ByteArray) (au : Bool) (z : Int) (a : Nat → Int) (vp va : Sl) : (#[.int .i64 ph, .int .i64 (p 0), .int .i64 (p 1), .int .i64 (p 2), .int .i64 (p 3), .int .i64 (p 4), .int .i64 (p 5), .int .i64 (p 6), .int .i64 (p 7), .int .i64 0, .int .i64 0, .string comm, .string exe, .slice none 0 0, .bool au, .int .i64 z, .int .i64 (a 0), .int .i64 (a 1), .int .i64 (a 2), .int .i64 (a 3), vp.v, va.v, .int .i64 0, .slice none 0 0, .int .i64 0] : Array Value) = ctxC ⟨ph, p, a, 0, 0, comm, exe⟩ ⟨0, 0, ⟨none, 0, 0⟩, au, z, vp, va⟩ (.slice none 0 0) := rfl
/-- What Context makes. -/
def CtxPost (w : World) (base g : Nat) (b : Int) (e : Ending) (w' : World) : Prop := ∃ (c : Ctx) (r : CRest) (it : Value) (L : List (Itm × IRest)), e = .returned (.agg (ctxC c r it)) ∧ L.length ≤ 2 ∧ OwnI w' w.heap.size it L ∧ SrcOk w' base g b ∧ w.grownBy w' (some g)
theorem ctx_ret {f : FuncId} {fn : Func} (_hf : Tryz.prog.funcs[f]? = some fn) (h : fn.results = #[.cell 2 54]) (tmps : Array Value) (w : World) (g : Nat) (c : Ctx) (r : CRest) (it : Value) (hp : tmps.getD 2 undef = .pointer (some ⟨g, 0, none⟩)) (hg : Blk w g 54 (ctxC c r it)) :
    (results fn tmps).run Tryz.prog w = .ok (.agg (ctxC c r it)) w :=
  results_cell_row h tmps w g _ (ctxC c r it) (0, 0) _ hp hg Tryz.underlying54 rfl (ctx_sz _ _ _)
theorem ctx_end {w wr : World} {base g gc : Nat} {b b' : Int} {c : Ctx} {r : CRest} {it : Value} {L : List (Itm × IRest)} (h : K1 w wr base g b' gc c r it) (hb : b' ≤ b) (hL : L.length ≤ 2) (ho : OwnI wr (gc + 1) it L) : CtxPost w base g b (.returned (.agg (ctxC c r it))) (wr.setRow w.heap.size (ctxC c r it)) := by
  have h2 := h.h2
  have h3 := h.h3
  have h4 := h.h4
  exact ⟨c, r, it, L, rfl, hL, (ho.row (by omega) _).low (by omega), (h.src.keep (setRow_other _ w.heap.size g _ (by omega)) (fun i hi => setRow_other _ w.heap.size i _ (by omega))).more hb, ⟨h.only.os, h.only.tape, h.only.output, by rw [setRow_size]; exact h.only.size, fun i hi hne => (setRow_other _ w.heap.size i _ (by omega)).trans (h.only.block i hi hne)⟩⟩
theorem it_slice {w : World} {lo : Nat} {v : Value} {L : List (Itm × IRest)} (h : OwnI w lo v L) : ∃ A n c, v = .slice A n c := by
  obtain ⟨A, c, e, _⟩ := h.items
  exact ⟨A, _, c, e⟩
theorem item_n13 (i : Itm) (r : IRest) : (itemC i r).size = 13 := rfl
theorem item_fold (i : Itm) (r : IRest) : Array.foldl (fun (cs : Array Value) (x : Value × Nat) => cs.setIfInBounds x.snd x.fst) #[Value.string { data := #[] }, Value.string { data := #[] }, Value.int IntKind.i64 0, Value.int IntKind.i64 0, Value.string { data := #[] }, Value.int IntKind.i64 0, Value.int IntKind.i64 0, Value.int IntKind.i64 0, Value.int IntKind.i64 0, Value.int IntKind.i64 0, Value.int IntKind.i64 0, Value.int IntKind.i64 0, Value.int IntKind.i64 0] (itemC i r).zipIdx 0 13 = itemC i r := by
  unfold itemC
  simp
attribute [local irreducible] ctxC itemC
set_option maxRecDepth 100000 in
set_option maxHeartbeats 16000000 in
theorem src_context (w : World) (base g : Nat) (b : Int) (h : SrcOk w base g b) (hb : b ≤ 100000000000) :
    Calls Tryz.prog 21 #[.pointer (some ⟨g, 0, none⟩)] w (CtxPost w base g (b + 500)) := by
  have HB := Lib.hid hb
  have hlt0 : g < w.heap.size := src_lt h
  have hbase : base ≤ w.heap.size := by have := h.1; omega
  have hs0 : SrcOk (w.alloc (.cells zeroX 54)) base g b := h.alloc _
  have ho0 := only_alloc (World.grownBy.refl w (some g)) (.cells zeroX 54)
  have hr0 : Blk (w.alloc (.cells zeroX 54)) w.heap.size 54 zeroX := Blk.new w _ _
  clear h hb
  go_enter Tryz.func21, Tryz.ntmps21
  go_wp2_with fail
  refine (src_range _ base g b 1 2 hs0 (by have := HB.out; omega) (by omega) (by omega) (by omega)).mono ?_
  rintro e w1 ⟨ph, rfl, ph1, ph2, hs, hg⟩
  have hs1 := hs
  have ho1 := ho0.trans hg
  have hr1 := hr0.grown hg (fun e => by injection e with e; omega)
  clear hs hg hs0 ho0 hr0
  go_wp2_with fail
  refine (src_ident _ base g (b + 1) hs1 (by have := HB.out; omega)).mono ?_
  rintro e w2 ⟨p, comm, exe, au, rfl, _, _, hs, hg⟩
  have hs2 := hs
  have ho2 := ho1.trans hg
  have hr2 := hr1.grown hg (fun e => by injection e with e; omega)
  clear hs hg hs1 ho1 hr1
  go_wp2_with fail
  refine (src_call _ base g (b + 1 + 11) hs2 (by have := HB.out; omega)).mono ?_
  rintro e w3 ⟨z, a, vp, va, ps, gs, rfl, _, _, _, _, _, _, ownp, owng, hs, hg⟩
  obtain ⟨Ap, np, cp, rfl⟩ := slice_form ownp
  obtain ⟨Ag, ng, cg, rfl⟩ := slice_form owng
  have ho3 := ho2.trans hg
  have hr3 := hr2.grown hg (fun e => by injection e with e; omega)
  have hw3 : w.heap.size < w3.heap.size := hr3.lt
  have HG0 := Blk.new w3 zeroX 54
  have HN := ctx_new ph p comm exe au z a ⟨Ap, np, cp⟩ ⟨Ag, ng, cg⟩
  have hsr3 : SrcOk ((w3.alloc (.cells zeroX 54)).setRow w3.heap.size (ctxC ⟨ph, p, a, 0, 0, comm, exe⟩ ⟨0, 0, ⟨none, 0, 0⟩, au, z, ⟨Ap, np, cp⟩, ⟨Ag, ng, cg⟩⟩ (.slice none 0 0))) base g (b + 1 + 11 + 200) := (hs.alloc _).keep (setRow_other _ w3.heap.size g _ (by omega)) (fun i hi => setRow_other _ w3.heap.size i _ (by omega))
  have hor3 : w.grownBy ((w3.alloc (.cells zeroX 54)).setRow w3.heap.size (ctxC ⟨ph, p, a, 0, 0, comm, exe⟩ ⟨0, 0, ⟨none, 0, 0⟩, au, z, ⟨Ap, np, cp⟩, ⟨Ag, ng, cg⟩⟩ (.slice none 0 0))) (some g) := by
    have := only_alloc ho3 (.cells zeroX 54)
    exact ⟨this.os, this.tape, this.output, by rw [setRow_size]; exact this.size, fun i hi hne => (setRow_other _ w3.heap.size i _ (by omega)).trans (this.block i hi hne)⟩
  have st1 : K1 w ((w3.alloc (.cells zeroX 54)).setRow w3.heap.size (ctxC ⟨ph, p, a, 0, 0, comm, exe⟩ ⟨0, 0, ⟨none, 0, 0⟩, au, z, ⟨Ap, np, cp⟩, ⟨Ag, ng, cg⟩⟩ (.slice none 0 0))) base g (b + 300) w3.heap.size ⟨ph, p, a, 0, 0, comm, exe⟩ ⟨0, 0, ⟨none, 0, 0⟩, au, z, ⟨Ap, np, cp⟩, ⟨Ag, ng, cg⟩⟩ (.slice none 0 0) :=
    ⟨hor3, hsr3.more (by omega), (hr3.alloc _).row_other _ (by omega), HG0.row _, hw3, hlt0, hbase⟩
  clear ownp owng hs hg hs2 ho2 hr2 ho3 hr3 hsr3 hor3
  have HG := Lib.hid HG0
  clear HG0
  go_wp2_with ((with_reducible refine store_blk ?_ 54 (.tmp 3) (.tmp 11) ?_ HG.out (ctxC ⟨ph, p, a, 0, 0, comm, exe⟩ ⟨0, 0, ⟨none, 0, 0⟩, au, z, ⟨Ap, np, cp⟩, ⟨Ag, ng, cg⟩⟩ (.slice none 0 0)) ?_ ?_ ?_ ?_ ?_ ?_); (iterate 4 rfl); (exact ctx_sz _ _ _); (exact ctx_old _ _ _); (exact ctx_one _ _ _ _ _))
  clear HN HG
  generalize hcx : (⟨ph, p, a, 0, 0, comm, exe⟩ : Ctx) = c0 at *
  have HPH : Hid (c0.ph = ph) := Lib.hid (by rw [← hcx])
  clear hcx
  generalize (⟨0, 0, ⟨none, 0, 0⟩, au, z, ⟨Ap, np, cp⟩, ⟨Ag, ng, cg⟩⟩ : CRest) = r0 at *
  generalize (w3.alloc (.cells zeroX 54)).setRow w3.heap.size (ctxC c0 r0 (.slice none 0 0)) = w4 at *
  generalize w3.heap.size = gc at *
  refine (src_n _ base g (b + 300) 4 st1.src (by have := HB.out; omega) (by omega) (by omega)).mono ?_
  rintro e w5 ⟨n4, rfl, n40, n41, hs, hg⟩
  have st5 := st1.step hs hg
  clear hs hg st1
  have q0 := CtxB.ph st5.cb
  have f0 := st5.cb.free 0
  by_cases hn4 : 0 < n4
  · have stT := st5.ph 2
    clear st5
    go_wp2_with fail
    clear q0 f0
    have hwt : (w5.setCell ⟨gc, 0, none⟩ (.int .i64 2)).heap.size = w5.heap.size := by simp [World.setCell]
    rw [← hwt]
    clear hwt
    generalize w5.setCell ⟨gc, 0, none⟩ (.int .i64 2) = wt at *
    have HC1 : ∃ c1 : Ctx, c1 = { c0 with ph := 2 } := ⟨_, rfl⟩
    obtain ⟨c1, hc1⟩ := HC1
    rw [← hc1] at stT
    clear hc1
    refine (src_pick _ base g wt.heap.size (b + 300 + 1) 6 (-13) 3 _ 3 (0, 0) (stT.src.alloc _) (by have := HB.out; omega) (heap_alloc_new wt _) (by have := src_lt stT.src; omega) rfl (by omega) (by omega) rfl).mono ?_
    rintro e w6 ⟨ex, rfl, _, _, hs, hg⟩
    have st6 := (stT.alloc (.cells #[.int .i64 0, .int .i64 0, .int .i64 3, .int .i64 (-1), .int .i64 (-2), .int .i64 (-13)] 3)).step hs hg
    clear hs hg stT
    have q22 := CtxB.ex st6.cb
    have f22 := st6.cb.free 22
    have st7 := st6.ex ex
    go_wp2_with fail
    clear q22 f22 st6
    generalize w6.setCell ⟨gc, 22, none⟩ (.int .i64 ex) = w7 at *
    refine (src_n _ base g (b + 300 + 1 + 1) 3 st7.src (by have := HB.out; omega) (by omega) (by omega)).mono ?_
    rintro e w8 ⟨kz, rfl, k0, k1, hs, hg⟩
    obtain ⟨kn, rfl⟩ := Int.eq_ofNat_of_zero_le k0
    have st8 := st7.step hs hg
    clear hs hg st7
    go_wp2_with fail
    go_loopw [4] (fun i wr => ∃ (k : Nat) (it : Value) (L : List (Itm × IRest)), i = .int .i64 (k : Int) ∧ L.length + k ≤ 2 ∧ OwnI wr (gc + 1) it L ∧ K1 w wr base g (b + 310 + 40 * L.length) gc _ r0 it) (fun i _ => (intOf i).toNat)
    case atStart => exact ⟨kn, _, [], rfl, by simp; omega, OwnI.nil _ _, st8.more (by simp; omega)⟩
    case round =>
      obtain ⟨k, it, L, rfl, hlen, hown, hst⟩ := hrel
      clear st8 k0 k1
      by_cases hk : 0 < k
      · have hk1 : (0 : Int) < (k : Int) := by omega
        have q23 := CtxB.items hst.cb
        have hgc := hst.cb.lt
        go_wp2_with fail
        go_region_law
          (first
            | (go_simp; go_at_call 62; refine (src_item _ base g (b + 310 + 40 * L.length) (by exact hst.src.drew) (by have := HB.out; omega)).mono ?_; rintro e w13 ⟨i, r, rfl, hs3, hg3⟩; have st3 := hst.drew.step hs3 hg3; have own3 := OwnI.only (w := wr.drew) hown hg3 (by have := hst.h2; have := hst.h3; omega); have qs := item_n13 i r; have qf := item_fold i r; have qA := CtxB.items st3.cb; have qC := CtxB.items (st3.alloc (.cells (itemC i r) 73)).cb; go_simp)
            | (refine step_append_item (by rfl) (.tmp 30) (.tmp 33) (by rfl) (gc + 1) it L (by rfl) (by exact own3.alloc _) ⟨w13.heap.size, 0, none⟩ i r (by rfl) (by exact row_new w13 (itemC i r) 73) (by omega) (by have := st3.cb.lt; simp; omega) ?_; intro v4 w4 own4 hg4 hat4; obtain ⟨g4, c4, hv4⟩ := Joins.ownsRow_form own4 (by simp); subst hv4; have st4 := (st3.alloc (.cells (itemC i r) 73)).grown hg4 (fun r hr => by have := own3.ge r hr; omega); have qB := CtxB.items st4.cb; have fB := st4.cb.free 23))
        all_goals
          simp only [List.length_append, List.length_cons, List.length_nil, Nat.zero_add] at own4
          have st5 := st4.sit (.slice (some ⟨g4, 0, none⟩) (L.length + 1) c4)
          have own6 := own4.setCell (p := ⟨gc, 23, none⟩) (by show gc < gc + 1; omega) (.slice (some ⟨g4, 0, none⟩) (L.length + 1) c4)
          clear q23 qs qf qA qB qC fB own3 own4 st3 st4 hown hst hg3 hs3 hg4 hat4
          go_wp2_with fail
          go_roundw
          case rel => exact ⟨k - 1, _, L ++ [(i, r)], by go_num, by simp; omega, own6, st5.more (by simp; omega)⟩
          case measure => simp [intOf]; omega
      · obtain rfl : k = 0 := by omega
        have st := hst
        have own := hown
        have hL2 : L.length ≤ 2 := by omega
        clear hst hown
        obtain ⟨Ai, ni, ci, rfl⟩ := it_slice own
        go_wp2_with fail
        refine (src_n _ base g (b + 310 + 40 * L.length) 6 st.src (by have := HB.out; omega) (by omega) (by omega)).mono ?_
        rintro e w10 ⟨y, rfl, y0, y1, hs, hg⟩
        have st10 := st.step hs hg
        have own10 := own.only hg (by have := st.h2; have := st.h3; omega)
        clear hs hg st own
        by_cases hy : y = 5
        · subst hy
          go_wp2_with fail
          refine (src_pick _ base g w10.heap.size ((b + 310 + 40 * L.length) + 1) 4 0 2000 _ 3 (0, 0) (st10.src.alloc _) (by have := HB.out; omega) (heap_alloc_new w10 _) (by have := src_lt st10.src; omega) rfl (by omega) (by omega) rfl).mono ?_
          rintro e w11 ⟨ty, rfl, _, _, hs, hg⟩
          have st11 := (st10.alloc (.cells #[.int .i64 1300, .int .i64 1302, .int .i64 1307, .int .i64 1005] 3)).step hs hg
          have own11 := (own10.alloc (.cells #[.int .i64 1300, .int .i64 1302, .int .i64 1307, .int .i64 1005] 3)).only hg (by have := st10.h2; have := st10.h3; omega)
          clear hs hg st10 own10
          have q24 := CtxB.ty st11.cb
          have f24 := st11.cb.free 24
          have stE := st11.ty ty
          have ownE := own11.setCell (p := ⟨gc, 24, none⟩) (by show gc < gc + 1; omega) (.int .i64 ty)
          clear st11 own11
          obtain ⟨cE, rE, itE, stE, ownE, Ai, ni, ci, hit⟩ : ∃ c r it, K1 w _ base g _ gc c r it ∧ OwnI _ (gc + 1) it _ ∧ ∃ A n c, it = .slice A n c := ⟨_, _, _, stE, ownE, _, _, _, rfl⟩
          subst hit
          have HCB := Lib.hid stE.cb
          have HRB := Lib.hid stE.rb
          go_wp2_with (first | ((with_reducible refine load_blk ?_ 54 (.tmp 3) ?_ HCB.out ?_ _ Tryz.underlying54 ?_ ?_ ?_); (iterate 4 rfl); exact ctx_sz _ _ _) | ((with_reducible refine store_blk ?_ 54 (.tmp 2) (.tmp 43) ?_ HRB.out (ctxC cE rE (.slice Ai ni ci)) ?_ ?_ ?_ ?_ ?_ ?_); (iterate 4 rfl); (exact ctx_sz _ _ _); (exact ctx_old _ _ _); (exact ctx_one _ _ _ _ _)))
          refine bodyPost_ret (ctx_ret Tryz.func21 rfl _ _ w.heap.size _ _ _ rfl (stE.rb.row _)) rfl ?_
          exact ctx_end stE (by omega) hL2 ownE
        · have yb : (y == 5) = false := by simpa using hy
          clear hy
          have stE := st10
          have ownE := own10
          clear st10 own10
          obtain ⟨cE, rE, itE, stE, ownE, Ai, ni, ci, hit⟩ : ∃ c r it, K1 w _ base g _ gc c r it ∧ OwnI _ (gc + 1) it _ ∧ ∃ A n c, it = .slice A n c := ⟨_, _, _, stE, ownE, _, _, _, rfl⟩
          subst hit
          have HCB := Lib.hid stE.cb
          have HRB := Lib.hid stE.rb
          go_wp2_with (first | ((with_reducible refine load_blk ?_ 54 (.tmp 3) ?_ HCB.out ?_ _ Tryz.underlying54 ?_ ?_ ?_); (iterate 4 rfl); exact ctx_sz _ _ _) | ((with_reducible refine store_blk ?_ 54 (.tmp 2) (.tmp 43) ?_ HRB.out (ctxC cE rE (.slice Ai ni ci)) ?_ ?_ ?_ ?_ ?_ ?_); (iterate 4 rfl); (exact ctx_sz _ _ _); (exact ctx_old _ _ _); (exact ctx_one _ _ _ _ _)))
          refine bodyPost_ret (ctx_ret Tryz.func21 rfl _ _ w.heap.size _ _ _ rfl (stE.rb.row _)) rfl ?_
          exact ctx_end stE (by omega) hL2 ownE
  · have hp : ph = 1 ∨ ph = 2 := by omega
    rw [HPH.out] at q0
    rcases hp with rfl | rfl
    · have st := st5
      have own := OwnI.nil w5 (gc + 1)
      have hL2 : ([] : List (Itm × IRest)).length ≤ 2 := by simp
      clear st5
      go_wp2_with fail
      refine (src_n _ base g (b + 300 + 1) 6 st.src (by have := HB.out; omega) (by omega) (by omega)).mono ?_
      rintro e w10 ⟨y, rfl, y0, y1, hs, hg⟩
      have st10 := st.step hs hg
      have own10 := own.only hg (by have := st.h2; have := st.h3; omega)
      clear hs hg st own
      by_cases hy : y = 5
      · subst hy
        go_wp2_with fail
        refine (src_pick _ base g w10.heap.size ((b + 300 + 1) + 1) 4 0 2000 _ 3 (0, 0) (st10.src.alloc _) (by have := HB.out; omega) (heap_alloc_new w10 _) (by have := src_lt st10.src; omega) rfl (by omega) (by omega) rfl).mono ?_
        rintro e w11 ⟨ty, rfl, _, _, hs, hg⟩
        have st11 := (st10.alloc (.cells #[.int .i64 1300, .int .i64 1302, .int .i64 1307, .int .i64 1005] 3)).step hs hg
        have own11 := (own10.alloc (.cells #[.int .i64 1300, .int .i64 1302, .int .i64 1307, .int .i64 1005] 3)).only hg (by have := st10.h2; have := st10.h3; omega)
        clear hs hg st10 own10
        have q24 := CtxB.ty st11.cb
        have f24 := st11.cb.free 24
        have stE := st11.ty ty
        have ownE := own11.setCell (p := ⟨gc, 24, none⟩) (by show gc < gc + 1; omega) (.int .i64 ty)
        clear st11 own11
        obtain ⟨cE, rE, itE, stE, ownE, Ai, ni, ci, hit⟩ : ∃ c r it, K1 w _ base g _ gc c r it ∧ OwnI _ (gc + 1) it _ ∧ ∃ A n c, it = .slice A n c := ⟨_, _, _, stE, ownE, _, _, _, rfl⟩
        subst hit
        have HCB := Lib.hid stE.cb
        have HRB := Lib.hid stE.rb
        go_wp2_with (first | ((with_reducible refine load_blk ?_ 54 (.tmp 3) ?_ HCB.out ?_ _ Tryz.underlying54 ?_ ?_ ?_); (iterate 4 rfl); exact ctx_sz _ _ _) | ((with_reducible refine store_blk ?_ 54 (.tmp 2) (.tmp 43) ?_ HRB.out (ctxC cE rE (.slice Ai ni ci)) ?_ ?_ ?_ ?_ ?_ ?_); (iterate 4 rfl); (exact ctx_sz _ _ _); (exact ctx_old _ _ _); (exact ctx_one _ _ _ _ _)))
        refine bodyPost_ret (ctx_ret Tryz.func21 rfl _ _ w.heap.size _ _ _ rfl (stE.rb.row _)) rfl ?_
        exact ctx_end stE (by omega) hL2 ownE
      · have yb : (y == 5) = false := by simpa using hy
        clear hy
        have stE := st10
        have ownE := own10
        clear st10 own10
        obtain ⟨cE, rE, itE, stE, ownE, Ai, ni, ci, hit⟩ : ∃ c r it, K1 w _ base g _ gc c r it ∧ OwnI _ (gc + 1) it _ ∧ ∃ A n c, it = .slice A n c := ⟨_, _, _, stE, ownE, _, _, _, rfl⟩
        subst hit
        have HCB := Lib.hid stE.cb
        have HRB := Lib.hid stE.rb
        go_wp2_with (first | ((with_reducible refine load_blk ?_ 54 (.tmp 3) ?_ HCB.out ?_ _ Tryz.underlying54 ?_ ?_ ?_); (iterate 4 rfl); exact ctx_sz _ _ _) | ((with_reducible refine store_blk ?_ 54 (.tmp 2) (.tmp 43) ?_ HRB.out (ctxC cE rE (.slice Ai ni ci)) ?_ ?_ ?_ ?_ ?_ ?_); (iterate 4 rfl); (exact ctx_sz _ _ _); (exact ctx_old _ _ _); (exact ctx_one _ _ _ _ _)))
        refine bodyPost_ret (ctx_ret Tryz.func21 rfl _ _ w.heap.size _ _ _ rfl (stE.rb.row _)) rfl ?_
        exact ctx_end stE (by omega) hL2 ownE
    · have stT := st5
      clear st5
      go_wp2_with fail
      clear q0 f0
      refine (src_pick _ base g w5.heap.size (b + 300 + 1) 6 (-13) 3 _ 3 (0, 0) (stT.src.alloc _) (by have := HB.out; omega) (heap_alloc_new w5 _) (by have := src_lt stT.src; omega) rfl (by omega) (by omega) rfl).mono ?_
      rintro e w6 ⟨ex, rfl, _, _, hs, hg⟩
      have st6 := (stT.alloc (.cells #[.int .i64 0, .int .i64 0, .int .i64 3, .int .i64 (-1), .int .i64 (-2), .int .i64 (-13)] 3)).step hs hg
      clear hs hg stT
      have q22 := CtxB.ex st6.cb
      have f22 := st6.cb.free 22
      have st7 := st6.ex ex
      go_wp2_with fail
      clear q22 f22 st6
      generalize w6.setCell ⟨gc, 22, none⟩ (.int .i64 ex) = w7 at *
      refine (src_n _ base g (b + 300 + 1 + 1) 3 st7.src (by have := HB.out; omega) (by omega) (by omega)).mono ?_
      rintro e w8 ⟨kz, rfl, k0, k1, hs, hg⟩
      obtain ⟨kn, rfl⟩ := Int.eq_ofNat_of_zero_le k0
      have st8 := st7.step hs hg
      clear hs hg st7
      go_wp2_with fail
      go_loopw [4] (fun i wr => ∃ (k : Nat) (it : Value) (L : List (Itm × IRest)), i = .int .i64 (k : Int) ∧ L.length + k ≤ 2 ∧ OwnI wr (gc + 1) it L ∧ K1 w wr base g (b + 310 + 40 * L.length) gc _ r0 it) (fun i _ => (intOf i).toNat)
      case atStart => exact ⟨kn, _, [], rfl, by simp; omega, OwnI.nil _ _, st8.more (by simp; omega)⟩
      case round =>
        obtain ⟨k, it, L, rfl, hlen, hown, hst⟩ := hrel
        clear st8 k0 k1
        by_cases hk : 0 < k
        · have hk1 : (0 : Int) < (k : Int) := by omega
          have q23 := CtxB.items hst.cb
          have hgc := hst.cb.lt
          go_wp2_with fail
          go_region_law
            (first
              | (go_simp; go_at_call 62; refine (src_item _ base g (b + 310 + 40 * L.length) (by exact hst.src.drew) (by have := HB.out; omega)).mono ?_; rintro e w13 ⟨i, r, rfl, hs3, hg3⟩; have st3 := hst.drew.step hs3 hg3; have own3 := OwnI.only (w := wr.drew) hown hg3 (by have := hst.h2; have := hst.h3; omega); have qs := item_n13 i r; have qf := item_fold i r; have qA := CtxB.items st3.cb; have qC := CtxB.items (st3.alloc (.cells (itemC i r) 73)).cb; go_simp)
              | (refine step_append_item (by rfl) (.tmp 30) (.tmp 33) (by rfl) (gc + 1) it L (by rfl) (by exact own3.alloc _) ⟨w13.heap.size, 0, none⟩ i r (by rfl) (by exact row_new w13 (itemC i r) 73) (by omega) (by have := st3.cb.lt; simp; omega) ?_; intro v4 w4 own4 hg4 hat4; obtain ⟨g4, c4, hv4⟩ := Joins.ownsRow_form own4 (by simp); subst hv4; have st4 := (st3.alloc (.cells (itemC i r) 73)).grown hg4 (fun r hr => by have := own3.ge r hr; omega); have qB := CtxB.items st4.cb; have fB := st4.cb.free 23))
          all_goals
            simp only [List.length_append, List.length_cons, List.length_nil, Nat.zero_add] at own4
            have st5 := st4.sit (.slice (some ⟨g4, 0, none⟩) (L.length + 1) c4)
            have own6 := own4.setCell (p := ⟨gc, 23, none⟩) (by show gc < gc + 1; omega) (.slice (some ⟨g4, 0, none⟩) (L.length + 1) c4)
            clear q23 qs qf qA qB qC fB own3 own4 st3 st4 hown hst hg3 hs3 hg4 hat4
            go_wp2_with fail
            go_roundw
            case rel => exact ⟨k - 1, _, L ++ [(i, r)], by go_num, by simp; omega, own6, st5.more (by simp; omega)⟩
            case measure => simp [intOf]; omega
        · obtain rfl : k = 0 := by omega
          have st := hst
          have own := hown
          have hL2 : L.length ≤ 2 := by omega
          clear hst hown
          obtain ⟨Ai, ni, ci, rfl⟩ := it_slice own
          go_wp2_with fail
          refine (src_n _ base g (b + 310 + 40 * L.length) 6 st.src (by have := HB.out; omega) (by omega) (by omega)).mono ?_
          rintro e w10 ⟨y, rfl, y0, y1, hs, hg⟩
          have st10 := st.step hs hg
          have own10 := own.only hg (by have := st.h2; have := st.h3; omega)
          clear hs hg st own
          by_cases hy : y = 5
          · subst hy
            go_wp2_with fail
            refine (src_pick _ base g w10.heap.size ((b + 310 + 40 * L.length) + 1) 4 0 2000 _ 3 (0, 0) (st10.src.alloc _) (by have := HB.out; omega) (heap_alloc_new w10 _) (by have := src_lt st10.src; omega) rfl (by omega) (by omega) rfl).mono ?_
            rintro e w11 ⟨ty, rfl, _, _, hs, hg⟩
            have st11 := (st10.alloc (.cells #[.int .i64 1300, .int .i64 1302, .int .i64 1307, .int .i64 1005] 3)).step hs hg
            have own11 := (own10.alloc (.cells #[.int .i64 1300, .int .i64 1302, .int .i64 1307, .int .i64 1005] 3)).only hg (by have := st10.h2; have := st10.h3; omega)
            clear hs hg st10 own10
            have q24 := CtxB.ty st11.cb
            have f24 := st11.cb.free 24
            have stE := st11.ty ty
            have ownE := own11.setCell (p := ⟨gc, 24, none⟩) (by show gc < gc + 1; omega) (.int .i64 ty)
            clear st11 own11
            obtain ⟨cE, rE, itE, stE, ownE, Ai, ni, ci, hit⟩ : ∃ c r it, K1 w _ base g _ gc c r it ∧ OwnI _ (gc + 1) it _ ∧ ∃ A n c, it = .slice A n c := ⟨_, _, _, stE, ownE, _, _, _, rfl⟩
            subst hit
            have HCB := Lib.hid stE.cb
            have HRB := Lib.hid stE.rb
            go_wp2_with (first | ((with_reducible refine load_blk ?_ 54 (.tmp 3) ?_ HCB.out ?_ _ Tryz.underlying54 ?_ ?_ ?_); (iterate 4 rfl); exact ctx_sz _ _ _) | ((with_reducible refine store_blk ?_ 54 (.tmp 2) (.tmp 43) ?_ HRB.out (ctxC cE rE (.slice Ai ni ci)) ?_ ?_ ?_ ?_ ?_ ?_); (iterate 4 rfl); (exact ctx_sz _ _ _); (exact ctx_old _ _ _); (exact ctx_one _ _ _ _ _)))
            refine bodyPost_ret (ctx_ret Tryz.func21 rfl _ _ w.heap.size _ _ _ rfl (stE.rb.row _)) rfl ?_
            exact ctx_end stE (by omega) hL2 ownE
          · have yb : (y == 5) = false := by simpa using hy
            clear hy
            have stE := st10
            have ownE := own10
            clear st10 own10
            obtain ⟨cE, rE, itE, stE, ownE, Ai, ni, ci, hit⟩ : ∃ c r it, K1 w _ base g _ gc c r it ∧ OwnI _ (gc + 1) it _ ∧ ∃ A n c, it = .slice A n c := ⟨_, _, _, stE, ownE, _, _, _, rfl⟩
            subst hit
            have HCB := Lib.hid stE.cb
            have HRB := Lib.hid stE.rb
            go_wp2_with (first | ((with_reducible refine load_blk ?_ 54 (.tmp 3) ?_ HCB.out ?_ _ Tryz.underlying54 ?_ ?_ ?_); (iterate 4 rfl); exact ctx_sz _ _ _) | ((with_reducible refine store_blk ?_ 54 (.tmp 2) (.tmp 43) ?_ HRB.out (ctxC cE rE (.slice Ai ni ci)) ?_ ?_ ?_ ?_ ?_ ?_); (iterate 4 rfl); (exact ctx_sz _ _ _); (exact ctx_old _ _ _); (exact ctx_one _ _ _ _ _)))
            refine bodyPost_ret (ctx_ret Tryz.func21 rfl _ _ w.heap.size _ _ _ rfl (stE.rb.row _)) rfl ?_
            exact ctx_end stE (by omega) hL2 ownE
end Go.Proofs.YtollifnnpihfdaaGreatDoor
/- The source of numbers of package kauditmake: Mask, Pick2. -/
namespace Go.Proofs.YtollifnnpihfdaaGreatDoor
open Go.RowKit
def MPost (w : World) (base g : Nat) (b : Int) (e : Ending) (w' : World) : Prop := ∃ k : Nat, e = .returned (.int .u64 (k : Int)) ∧ k < 18446744073709551616 ∧ SrcOk w' base g b ∧ w.grownBy w' (some g)
theorem wrap_nat (e : Int) : ∃ k : Nat, k < 18446744073709551616 ∧ IntKind.u64.wrap e = (k : Int) := by
  rw [IntKind.wrap_u64]
  have h0 : 0 ≤ e % 18446744073709551616 := Int.emod_nonneg _ (by omega)
  have h1 : e % 18446744073709551616 < 18446744073709551616 := Int.emod_lt_of_pos _ (by omega)
  obtain ⟨k, hk⟩ := Int.eq_ofNat_of_zero_le h0
  exact ⟨k, by omega, hk⟩
theorem or_any {m : Nat} (hm : m < 18446744073709551616) (e : Int) : ∃ k : Nat, k < 18446744073709551616 ∧ bits .or .u64 (m : Int) (IntKind.u64.wrap e) = (k : Int) := by
  obtain ⟨q, hq, eq⟩ := wrap_nat e
  rw [eq, u64_or_nat m q (by omega) (by omega)]
  exact ⟨m ||| q, Nat.or_lt_two_pow (n := 64) hm hq, rfl⟩
set_option maxHeartbeats 1000000 in
theorem src_mask (w : World) (base g : Nat) (b : Int) (h : SrcOk w base g b) (hb : b ≤ 100000000000000) :
    Calls Tryz.prog 74 #[.pointer (some ⟨g, 0, none⟩)] w (MPost w base g (b + 40)) := by
  have H := Lib.hid h
  have HB := Lib.hid hb
  clear h hb
  go_enter Tryz.func74, Tryz.ntmps74
  go_wp2_with fail
  refine (src_n _ base g b 6 H.out (by have := HB.out; omega) (by omega) (by omega)).mono ?_
  rintro e w1 ⟨x, rfl, hx0, hx1, hs, hg⟩
  have HS := Lib.hid hs
  have HG := Lib.hid hg
  clear hs hg
  by_cases h0 : x = 0
  · have t0 : (x == 0) = true := by simpa using h0
    clear h0
    go_wp2_with fail
    go_ret
    exact ⟨4294967295, rfl, by omega, HS.out.more (by omega), HG.out⟩
  · have t0 : (x == 0) = false := by simpa using h0
    by_cases h1 : x = 1
    · have t1 : (x == 1) = true := by simpa using h1
      clear h0 h1
      go_wp2_with fail
      refine (src_n _ base g (b + 1) 32 HS.out (by have := HB.out; omega) (by omega) (by omega)).mono ?_
      rintro e w2 ⟨y, rfl, hy0, hy1, hs, hg⟩
      have HS2 := Lib.hid hs
      have HG2 := Lib.hid (HG.out.trans hg)
      clear hs hg
      go_wp2_with fail
      go_ret
      obtain ⟨k, hk, he⟩ := wrap_nat (2 ^ y.toNat)
      exact ⟨k, congrArg (fun z => Ending.returned (.int .u64 z)) he, hk, HS2.out.more (by omega), HG2.out⟩
    · have t1 : (x == 1) = false := by simpa using h1
      clear h0 h1
      go_wp2_with fail
      go_loopw [3, 4] (fun v i wr => ∃ (m k : Nat), v = .int .u64 (m : Int) ∧ i = .int .i64 (k : Int) ∧ k ≤ 32 ∧ m < 18446744073709551616 ∧ w.grownBy wr (some g) ∧ Hid (SrcOk wr base g (b + 1 + k))) (fun _ i _ => 32 - (intOf i).toNat)
      case atStart => exact ⟨0, 0, rfl, rfl, by omega, by omega, HG.out, HS.out.more (by omega)⟩
      case round =>
        obtain ⟨m, k, rfl, rfl, hk, hm, hgr, hsr⟩ := hrel
        by_cases hlt : k < 32
        · have k0 : (0 : Int) ≤ (k : Int) := by omega
          have k1 : (k : Int) < 32 := by omega
          go_wp2_with fail
          refine (src_n _ base g (b + 1 + k) 2 hsr.out (by have := HB.out; omega) (by omega) (by omega)).mono ?_
          rintro e w2 ⟨y, rfl, hy0, hy1, hs, hg⟩
          have HS2 := Lib.hid hs
          have HG2 := Lib.hid (hgr.trans hg)
          clear hs hg
          go_wp2_with fail
          go_roundw
          case rel =>
            obtain ⟨q, hq, he⟩ := or_any hm _
            exact ⟨q, k + 1, congrArg (fun z => Value.int .u64 z) he, by go_num, by omega, hq, HG2.out, HS2.out.more (by omega)⟩
          case measure => simp [intOf]; omega
        · obtain rfl : k = 32 := by omega
          go_wp2_with fail
          go_ret
          exact ⟨m, rfl, hm, hsr.out.more (by omega), hgr⟩
end Go.Proofs.YtollifnnpihfdaaGreatDoor

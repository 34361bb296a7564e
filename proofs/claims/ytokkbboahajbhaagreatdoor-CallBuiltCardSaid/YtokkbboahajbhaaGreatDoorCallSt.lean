/- What the reading of a call keeps: the call so far in a block, its lists of its own. -/
import Derived.Test.YtokkbboahajbhaaGreatDoorCallWords
import Derived.Test.YtokkbboahajbhaaGreatDoorCutWalk
import Derived.Test.YtokkbboahajbhaaGreatDoorEnvN
import Derived.Test.YtokkbboahajbhaaGreatDoorCallRFmt
namespace Go.Proofs.YtokkbboahajbhaaGreatDoor
open Go.RowKit
theorem results_cell_tmp {P : Program} {fn : Func} {p q : Tmp} {ty : TypeId} (h : fn.results = #[.cell p ty, .tmp q]) (tmps : Array Value) (w : World) (g : Nat) (t : TypeId) (cs : Array Value) (d : TypeDesc)
    (hp : tmps.getD p undef = .pointer (some ⟨g, 0, none⟩)) (hg : Blk w g t cs) (hu : P.underlying ty = some d) (hd : (match d with | .struct _ | .array _ _ => true | _ => false) = true) (hi : (P.info? ty).map (·.size) = some cs.size) :
    (results fn tmps).run P w = .ok (.tuple #[.agg cs, tmps.getD q undef]) w := by
  have hp' : tmps[p]?.getD undef = .pointer (some ⟨g, 0, none⟩) := by simpa using hp
  simp [results, h, hp', asAddr, run_loadVar_row w g t ty cs (0, 0) d hg hu hd hi]
theorem call_size2 : (Tryz.prog.info? 28).map (·.size) = some 7 := by kernel_rfl
theorem call_ret2 {fn : Func} (h : fn.results = #[.cell 2 28, .tmp 3]) (tmps : Array Value) (w : World) (g : Nat) (cs : Array Value) (hp : tmps.getD 2 undef = .pointer (some ⟨g, 0, none⟩)) (hg : Blk w g 28 cs) (h7 : cs.size = 7) :
    (results fn tmps).run Tryz.prog w = .ok (.tuple #[.agg cs, tmps.getD 3 undef]) w :=
  results_cell_tmp h tmps w g _ _ _ hp hg Tryz.underlying28 rfl (by rw [h7]; exact call_size2)
theorem OwnS.put1 {w : World} {lo : Nat} {v : Value} {L : List ByteArray} (h : OwnS w lo v L) {p : Addr} (hp : p.block < lo) (u : Value) : OwnS (w.setCell p u) lo v L :=
  ownsRow_setCell_other h (fun e => by have := h.ge _ e; omega) u
theorem OwnS.apart {w w' : World} {lo : Nat} {v v2 : Value} {L : List ByteArray} (h : OwnS w lo v L) (hg : w.grownBy w' v2.ownBlock) (hne : ∀ r, v.ownBlock = some r → v2.ownBlock ≠ some r) : OwnS w' lo v L :=
  World.ownsRow.kept h hg (by
    cases hv : v.ownBlock with
    | none => exact .inl rfl
    | some k => exact .inr (fun e => hne k hv e.symm))
theorem OwnS.low {w : World} {lo lo' : Nat} {v : Value} {L : List ByteArray} (h : OwnS w lo v L) (hb : lo' ≤ lo) : OwnS w lo' v L := Joins.ownsRow_le h hb
def putA (a : Nat → Int) (k : Nat) (v : Int) : Nat → Int := fun j => if j = k then v else a j
abbrev cellsCall (z : Int) (a : Nat → Int) (vp va : Value) : Array Value := #[.int .i64 z, .int .i64 (a 0), .int .i64 (a 1), .int .i64 (a 2), .int .i64 (a 3), vp, va]
structure PSt (w wr : World) (gc : Nat) (z : Int) (a : Nat → Int) (vp va : Value) (ps gs : List ByteArray) : Prop where
  blk : Blk wr gc 28 (cellsCall z a vp va)
  op : OwnS wr (gc + 1) vp ps
  og : OwnS wr (gc + 1) va gs
  ne : ∀ r, vp.ownBlock = some r → va.ownBlock ≠ some r
  bel : Below w.heap.size w wr
  hg : w.heap.size ≤ gc
section
variable {w wr w' : World} {gc : Nat} {z : Int} {a : Nat → Int} {vp va : Value} {ps gs : List ByteArray}
theorem PSt.lt (h : PSt w wr gc z a vp va ps gs) : gc < wr.heap.size := h.blk.lt
theorem PSt.new (hb : Below w.heap.size w wr) (z : Int) : PSt w (wr.alloc (.cells (cellsCall z (fun _ => 0) (.slice none 0 0) (.slice none 0 0)) 28)) wr.heap.size z (fun _ => 0) (.slice none 0 0) (.slice none 0 0) [] [] :=
  ⟨Blk.new wr _ _, OwnS.nil _ _, OwnS.nil _ _, fun r hr => (by cases hr), hb.alloc hb.size _, hb.size⟩
theorem PSt.below (h : PSt w wr gc z a vp va ps gs) (hb : Below wr.heap.size wr w') : PSt w w' gc z a vp va ps gs :=
  ⟨h.blk.below hb, h.op.below hb, h.og.below hb, h.ne, below_then h.bel hb, h.hg⟩
theorem PSt.alloc (h : PSt w wr gc z a vp va ps gs) (o : Obj) : PSt w (wr.alloc o) gc z a vp va ps gs := h.below ((Below.refl _ _).alloc (Nat.le_refl _) _)
theorem PSt.setZ (h : PSt w wr gc z a vp va ps gs) (z' : Int) : PSt w (wr.setCell ⟨gc, 0, none⟩ (.int .i64 z')) gc z' a vp va ps gs :=
  ⟨h.blk.put 0 (.int .i64 z'), h.op.put1 (p := ⟨gc, 0, none⟩) (Nat.lt_succ_self gc) _, h.og.put1 (p := ⟨gc, 0, none⟩) (Nat.lt_succ_self gc) _, h.ne, h.bel.setCell h.hg _, h.hg⟩
theorem PSt.same (h : PSt w wr gc z a vp va ps gs) (i : Nat) (u : Value) (hu : (cellsCall z a vp va).setIfInBounds i u = cellsCall z a vp va) : PSt w (wr.setCell ⟨gc, i, none⟩ u) gc z a vp va ps gs :=
  ⟨by have := h.blk.put i u; rwa [hu] at this, h.op.put1 (p := ⟨gc, i, none⟩) (Nat.lt_succ_self gc) _, h.og.put1 (p := ⟨gc, i, none⟩) (Nat.lt_succ_self gc) _, h.ne, h.bel.setCell h.hg _, h.hg⟩
theorem PSt.back (h : PSt w wr gc z a vp va ps gs) : PSt w (((((((wr.setCell ⟨gc, 0, none⟩ (.int .i64 z)).setCell ⟨gc, 1, none⟩ (.int .i64 (a 0))).setCell ⟨gc, 2, none⟩ (.int .i64 (a 1))).setCell ⟨gc, 3, none⟩ (.int .i64 (a 2))).setCell ⟨gc, 4, none⟩ (.int .i64 (a 3))).setCell ⟨gc, 5, none⟩ vp).setCell ⟨gc, 6, none⟩ va) gc z a vp va ps gs :=
  ((((((h.same 0 _ rfl).same 1 _ rfl).same 2 _ rfl).same 3 _ rfl).same 4 _ rfl).same 5 _ rfl).same 6 _ rfl
theorem PSt.setA (h : PSt w wr gc z a vp va ps gs) (k : Nat) (hk : k < 4) (v : Int) : PSt w (wr.setCell ⟨gc, 1 + k, none⟩ (.int .i64 v)) gc z (putA a k v) vp va ps gs :=
  ⟨by
    have := h.blk.put (1 + k) (.int .i64 v)
    match k, hk with
    | 0, _ => exact this
    | 1, _ => exact this
    | 2, _ => exact this
    | 3, _ => exact this, h.op.put1 (p := ⟨gc, 1 + k, none⟩) (Nat.lt_succ_self gc) _, h.og.put1 (p := ⟨gc, 1 + k, none⟩) (Nat.lt_succ_self gc) _, h.ne, h.bel.setCell h.hg _, h.hg⟩
theorem PSt.addP (h : PSt w wr gc z a vp va ps gs) {o : Obj} {v : Value} {w4 : World} {L : List ByteArray} (own : OwnS w4 (gc + 1) v L) (hg : (wr.alloc o).grownBy w4 vp.ownBlock) (hat : v.ownBlock = vp.ownBlock ∨ v.ownBlock = some (wr.alloc o).heap.size) : PSt w (w4.setCell ⟨gc, 5, none⟩ v) gc z a v va L gs := by
  have h1 := h.alloc o
  refine ⟨(h1.blk.grown hg (fun e => by have := h1.op.ge _ e; omega)).put 5 v, own.put1 (p := ⟨gc, 5, none⟩) (Nat.lt_succ_self gc) _, ((h1.og.apart hg (fun r hr e => h.ne r e hr))).put1 (p := ⟨gc, 5, none⟩) (Nat.lt_succ_self gc) _, fun r hr e => ?_, ?_, h.hg⟩
  · rcases hat with k | k
    · exact h.ne r (k.symm.trans hr) e
    · rw [hr] at k; injection k with k
      have := (World.ownsRow.lt h1.og r e).2
      omega
  · refine (h1.bel.grown hg h1.bel.size (fun r hr => ?_)).setCell h.hg _
    have := h1.op.ge r hr; have := h.hg; omega
theorem PSt.addG (h : PSt w wr gc z a vp va ps gs) {o : Obj} {v : Value} {w4 : World} {L : List ByteArray} (own : OwnS w4 (gc + 1) v L) (hg : (wr.alloc o).grownBy w4 va.ownBlock) (hat : v.ownBlock = va.ownBlock ∨ v.ownBlock = some (wr.alloc o).heap.size) : PSt w (w4.setCell ⟨gc, 6, none⟩ v) gc z a vp v ps L := by
  have h1 := h.alloc o
  refine ⟨(h1.blk.grown hg (fun e => by have := h1.og.ge _ e; omega)).put 6 v, (h1.op.apart hg (fun r hr => h.ne r hr)).put1 (p := ⟨gc, 6, none⟩) (Nat.lt_succ_self gc) _, own.put1 (p := ⟨gc, 6, none⟩) (Nat.lt_succ_self gc) _, fun r hr e => ?_, ?_, h.hg⟩
  · rcases hat with k | k
    · exact h.ne r hr (k.symm.trans e)
    · rw [e] at k; injection k with k
      have := (World.ownsRow.lt h1.op r hr).2
      omega
  · refine (h1.bel.grown hg h1.bel.size (fun r hr => ?_)).setCell h.hg _
    have := h1.og.ge r hr; have := h.hg; omega
end
/-- A slice of strings cut at its beginning. -/
def fromA (ad : Addr) (cap k : Nat) : Addr := if cap = k then ad else ad.add k
theorem run_from (ad : Addr) (n cap k : Nat) (hk : k ≤ n) (w : World) : (Instr.sliceAt 26 (.slice (some ad) n cap) (some (.int .i64 (k : Int))) none none).run Tryz.prog w = .ok (.slice (some (fromA ad cap k)) (n - k) (cap - k)) w := by
  obtain ⟨i0, hi, hz0, hz1, hz2⟩ := info_parts Tryz.infoS
  have hu := Tryz.underlying26
  unfold fromA
  simp [Instr.sliceAt, Instr.slice, run_underlying hu, Instr.sliceBounds, run_sliceBound, sizeOf, typeInfo, hi, hz1, hk]
  split <;> rfl
theorem StrsAt.from {w : World} {B : Nat} {ad : Addr} {L : List ByteArray} (h : StrsAt w B (some ad) L) {cap : Nat} (hc : L.length ≤ cap) (k : Nat) : StrsAt w B (some (fromA ad cap k)) (L.drop k) := fun j hj => by
  rw [List.length_drop] at hj
  obtain ⟨ad', e, hl, hcell⟩ := h (k + j) (by omega)
  cases e
  unfold fromA
  rw [if_neg (by omega)]
  refine ⟨_, rfl, by rw [strs_block]; exact hl, ?_⟩
  rw [List.getElem_drop, ← hcell]
  congr 1
  by_cases h1 : k = 0
  · subst h1; simp [Addr.add]
  · by_cases h2 : j = 0
    · subst h2; simp [Addr.add, h1]
    · simp [Addr.add, h1, h2, Nat.add_assoc]
end Go.Proofs.YtokkbboahajbhaaGreatDoor

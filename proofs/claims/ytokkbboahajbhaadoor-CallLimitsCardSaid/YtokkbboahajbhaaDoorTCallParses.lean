/- Texts of one proof, laid together. -/
import Derived.Test.YtokkbboahajbhaaDoorCallWords
import Derived.Test.YtokkbboahajbhaaDoorCutWalk
import Derived.Test.YtokkbboahajbhaaDoorEnvN
import Derived.Test.YtokkbboahajbhaaDoorCallRFmt
import Derived.Test.YtokkbboahajbhaaDoorUnquote
import Derived.Test.YtokkbboahajbhaaDoorCallNum
import Derived.Test.YtokkbboahajbhaaDoorRUnq
import Derived.Test.YtokkbboahajbhaaDoorRReadN
import Derived.Test.YtokkbboahajbhaaDoorOwn
import Derived.Test.YtokkbboahajbhaaDoorProg
import Derived.Lib.Hide
import Derived.WalkSpells
import Derived.LoopTactic
import Derived.Outline
import Derived.RegionTactic
import Derived.IntWalk
import Derived.Deep.QuietTactic
import Derived.BigQuiet
import Derived.Test.YtokkbboahajbhaaDoorCallRGet
import Derived.Test.YtokkbboahajbhaaDoorAppS
import Derived.Deep.DeepCutAuto
import Derived.Deep.CutBlock
import Derived.Deep.RegionLaw
import Derived.Deep.RegionWith
import Derived.Test.YtokkbboahajbhaaDoorCallSame2
import Derived.Test.YtokkbboahajbhaaDoorCallAgree
import Derived.Test.YtokkbboahajbhaaDoorFrame
import Derived.Lib.SmallJoins
import Derived.Test.YtokkbboahajbhaaDoorRows
import Derived.Test.YtokkbboahajbhaaDoorCallRows
import Derived.SliceStrings
import Derived.Laws.IdiomArrays
import Derived.Handed
import Derived.HandedShaped
import Derived.SizedLaws
import Derived.Shelf.Vars
import Derived.LaidLaws
/- What the reading of a call keeps: the call so far in a block, its lists of its own. -/
namespace Go.Proofs.YtokkbboahajbhaaDoor
open Go.RowKit
theorem results_cell_tmp {P : Program} {fn : Func} {p q : Tmp} {ty : TypeId} (h : fn.results = #[.cell p ty, .tmp q]) (tmps : Array Value) (w : World) (g : Nat) (t : TypeId) (cs : Array Value) (d : TypeDesc)
    (hp : tmps.getD p undef = .pointer (some ⟨g, 0, none⟩)) (hg : Blk w g t cs) (hu : P.underlying ty = some d) (hd : (match d with | .struct _ | .array _ _ => true | _ => false) = true) (hi : (P.info? ty).map (·.size) = some cs.size) :
    (results fn tmps).run P w = .ok (.tuple #[.agg cs, tmps.getD q undef]) w := by
  have hp' : tmps[p]?.getD undef = .pointer (some ⟨g, 0, none⟩) := by simpa using hp
  simp [results, h, hp', asAddr, run_loadVar_row w g t ty cs (0, 0) d hg hu hd hi]
theorem call_size2 : (Tryd.prog.info? 25).map (·.size) = some 7 := by kernel_rfl
theorem call_ret2 {fn : Func} (h : fn.results = #[.cell 2 25, .tmp 3]) (tmps : Array Value) (w : World) (g : Nat) (cs : Array Value) (hp : tmps.getD 2 undef = .pointer (some ⟨g, 0, none⟩)) (hg : Blk w g 25 cs) (h7 : cs.size = 7) :
    (results fn tmps).run Tryd.prog w = .ok (.tuple #[.agg cs, tmps.getD 3 undef]) w :=
  results_cell_tmp h tmps w g _ _ _ hp hg Tryd.underlying25 rfl (by rw [h7]; exact call_size2)
theorem OwnS.put1 {w : World} {lo : Nat} {v : Value} {L : List ByteArray} (h : OwnS w lo v L) {p : Addr} (hp : p.block < lo) (u : Value) : OwnS (w.setCell p u) lo v L :=
  ownsRow_setCell_other h (fun e => by have := h.ge _ e; omega) u
theorem OwnS.apart {w w' : World} {lo : Nat} {v v2 : Value} {L : List ByteArray} (h : OwnS w lo v L) (hg : w.grownBy w' v2.ownBlock) (hne : ∀ r, v.ownBlock = some r → v2.ownBlock ≠ some r) : OwnS w' lo v L :=
  World.ownsRow.kept h hg (by
    cases hv : v.ownBlock with
    | none => exact .inl rfl
    | some k => exact .inr (fun e => hne k hv e.symm))
theorem OwnS.low {w : World} {lo lo' : Nat} {v : Value} {L : List ByteArray} (h : OwnS w lo v L) (hb : lo' ≤ lo) : OwnS w lo' v L := Joins.ownsRow_le h hb
def putA (a : Nat → Int) (k : Nat) (v : Int) : Nat → Int := fun j => if j = k then v else a j
abbrev cellsCall (z : Int) (a : Nat → Int) (vp va : Value) : Array Value := #[.int .i64 z, .int .i64 (a 0), .int .i64 (a 1), .int .i64 (a 2), .int .i64 (a 3), vp, va]
structure PSt (w wr : World) (gc : Nat) (z : Int) (a : Nat → Int) (vp va : Value) (ps gs : List ByteArray) : Prop where
  blk : Blk wr gc 25 (cellsCall z a vp va)
  op : OwnS wr (gc + 1) vp ps
  og : OwnS wr (gc + 1) va gs
  ne : ∀ r, vp.ownBlock = some r → va.ownBlock ≠ some r
  bel : Below w.heap.size w wr
  hg : w.heap.size ≤ gc
section
variable {w wr w' : World} {gc : Nat} {z : Int} {a : Nat → Int} {vp va : Value} {ps gs : List ByteArray}
theorem PSt.lt (h : PSt w wr gc z a vp va ps gs) : gc < wr.heap.size := h.blk.lt
theorem PSt.new (hb : Below w.heap.size w wr) (z : Int) : PSt w (wr.alloc (.cells (cellsCall z (fun _ => 0) (.slice none 0 0) (.slice none 0 0)) 25)) wr.heap.size z (fun _ => 0) (.slice none 0 0) (.slice none 0 0) [] [] :=
  ⟨Blk.new wr _ _, OwnS.nil _ _, OwnS.nil _ _, fun r hr => (by cases hr), hb.alloc hb.size _, hb.size⟩
theorem PSt.below (h : PSt w wr gc z a vp va ps gs) (hb : Below wr.heap.size wr w') : PSt w w' gc z a vp va ps gs :=
  ⟨h.blk.below hb, h.op.below hb, h.og.below hb, h.ne, below_then h.bel hb, h.hg⟩
theorem PSt.alloc (h : PSt w wr gc z a vp va ps gs) (o : Obj) : PSt w (wr.alloc o) gc z a vp va ps gs := h.below ((Below.refl _ _).alloc (Nat.le_refl _) _)
theorem PSt.setZ (h : PSt w wr gc z a vp va ps gs) (z' : Int) : PSt w (wr.setCell ⟨gc, 0, none⟩ (.int .i64 z')) gc z' a vp va ps gs :=
  ⟨h.blk.put 0 (.int .i64 z'), h.op.put1 (p := ⟨gc, 0, none⟩) (Nat.lt_succ_self gc) _, h.og.put1 (p := ⟨gc, 0, none⟩) (Nat.lt_succ_self gc) _, h.ne, h.bel.setCell h.hg _, h.hg⟩
theorem PSt.same (h : PSt w wr gc z a vp va ps gs) (i : Nat) (u : Value) (hu : (cellsCall z a vp va).setIfInBounds i u = cellsCall z a vp va) : PSt w (wr.setCell ⟨gc, i, none⟩ u) gc z a vp va ps gs :=
  ⟨by have := h.blk.put i u; rwa [hu] at this, h.op.put1 (p := ⟨gc, i, none⟩) (Nat.lt_succ_self gc) _, h.og.put1 (p := ⟨gc, i, none⟩) (Nat.lt_succ_self gc) _, h.ne, h.bel.setCell h.hg _, h.hg⟩
theorem PSt.back (h : PSt w wr gc z a vp va ps gs) : PSt w (((((((wr.setCell ⟨gc, 0, none⟩ (.int .i64 z)).setCell ⟨gc, 1, none⟩ (.int .i64 (a 0))).setCell ⟨gc, 2, none⟩ (.int .i64 (a 1))).setCell ⟨gc, 3, none⟩ (.int .i64 (a 2))).setCell ⟨gc, 4, none⟩ (.int .i64 (a 3))).setCell ⟨gc, 5, none⟩ vp).setCell ⟨gc, 6, none⟩ va) gc z a vp va ps gs :=
  ((((((h.same 0 _ rfl).same 1 _ rfl).same 2 _ rfl).same 3 _ rfl).same 4 _ rfl).same 5 _ rfl).same 6 _ rfl
theorem PSt.setA (h : PSt w wr gc z a vp va ps gs) (k : Nat) (hk : k < 4) (v : Int) : PSt w (wr.setCell ⟨gc, 1 + k, none⟩ (.int .i64 v)) gc z (putA a k v) vp va ps gs :=
  ⟨by
    have := h.blk.put (1 + k) (.int .i64 v)
    match k, hk with
    | 0, _ => exact this
    | 1, _ => exact this
    | 2, _ => exact this
    | 3, _ => exact this, h.op.put1 (p := ⟨gc, 1 + k, none⟩) (Nat.lt_succ_self gc) _, h.og.put1 (p := ⟨gc, 1 + k, none⟩) (Nat.lt_succ_self gc) _, h.ne, h.bel.setCell h.hg _, h.hg⟩
theorem PSt.addP (h : PSt w wr gc z a vp va ps gs) {o : Obj} {v : Value} {w4 : World} {L : List ByteArray} (own : OwnS w4 (gc + 1) v L) (hg : (wr.alloc o).grownBy w4 vp.ownBlock) (hat : v.ownBlock = vp.ownBlock ∨ v.ownBlock = some (wr.alloc o).heap.size) : PSt w (w4.setCell ⟨gc, 5, none⟩ v) gc z a v va L gs := by
  have h1 := h.alloc o
  refine ⟨(h1.blk.grown hg (fun e => by have := h1.op.ge _ e; omega)).put 5 v, own.put1 (p := ⟨gc, 5, none⟩) (Nat.lt_succ_self gc) _, ((h1.og.apart hg (fun r hr e => h.ne r e hr))).put1 (p := ⟨gc, 5, none⟩) (Nat.lt_succ_self gc) _, fun r hr e => ?_, ?_, h.hg⟩
  · rcases hat with k | k
    · exact h.ne r (k.symm.trans hr) e
    · rw [hr] at k; injection k with k
      have := (World.ownsRow.lt h1.og r e).2
      omega
  · refine (h1.bel.grown hg h1.bel.size (fun r hr => ?_)).setCell h.hg _
    have := h1.op.ge r hr; have := h.hg; omega
theorem PSt.addG (h : PSt w wr gc z a vp va ps gs) {o : Obj} {v : Value} {w4 : World} {L : List ByteArray} (own : OwnS w4 (gc + 1) v L) (hg : (wr.alloc o).grownBy w4 va.ownBlock) (hat : v.ownBlock = va.ownBlock ∨ v.ownBlock = some (wr.alloc o).heap.size) : PSt w (w4.setCell ⟨gc, 6, none⟩ v) gc z a vp v ps L := by
  have h1 := h.alloc o
  refine ⟨(h1.blk.grown hg (fun e => by have := h1.og.ge _ e; omega)).put 6 v, (h1.op.apart hg (fun r hr => h.ne r hr)).put1 (p := ⟨gc, 6, none⟩) (Nat.lt_succ_self gc) _, own.put1 (p := ⟨gc, 6, none⟩) (Nat.lt_succ_self gc) _, fun r hr e => ?_, ?_, h.hg⟩
  · rcases hat with k | k
    · exact h.ne r hr (k.symm.trans e)
    · rw [e] at k; injection k with k
      have := (World.ownsRow.lt h1.op r hr).2
      omega
  · refine (h1.bel.grown hg h1.bel.size (fun r hr => ?_)).setCell h.hg _
    have := h1.og.ge r hr; have := h.hg; omega
end
/-- A slice of strings cut at its beginning. -/
def fromA (ad : Addr) (cap k : Nat) : Addr := if cap = k then ad else ad.add k
theorem run_from (ad : Addr) (n cap k : Nat) (hk : k ≤ n) (w : World) : (Instr.sliceAt 23 (.slice (some ad) n cap) (some (.int .i64 (k : Int))) none none).run Tryd.prog w = .ok (.slice (some (fromA ad cap k)) (n - k) (cap - k)) w := by
  obtain ⟨i0, hi, hz0, hz1, hz2⟩ := info_parts Tryd.infoS
  have hu := Tryd.underlying23
  unfold fromA
  simp [Instr.sliceAt, Instr.slice, run_underlying hu, Instr.sliceBounds, run_sliceBound, sizeOf, typeInfo, hi, hz1, hk]
  split <;> rfl
theorem StrsAt.from {w : World} {B : Nat} {ad : Addr} {L : List ByteArray} (h : StrsAt w B (some ad) L) {cap : Nat} (hc : L.length ≤ cap) (k : Nat) : StrsAt w B (some (fromA ad cap k)) (L.drop k) := fun j hj => by
  rw [List.length_drop] at hj
  obtain ⟨ad', e, hl, hcell⟩ := h (k + j) (by omega)
  cases e
  unfold fromA
  rw [if_neg (by omega)]
  refine ⟨_, rfl, by rw [strs_block]; exact hl, ?_⟩
  rw [List.getElem_drop, ← hcell]
  congr 1
  by_cases h1 : k = 0
  · subst h1; simp [Addr.add]
  · by_cases h2 : j = 0
    · subst h2; simp [Addr.add, h1]
    · simp [Addr.add, h1, h2, Nat.add_assoc]
end Go.Proofs.YtokkbboahajbhaaDoor
/- The walk of call.read: what the words say, or that they are those of no call. -/
namespace Go.Proofs.YtokkbboahajbhaaDoor
open Go.RowKit
theorem atoi_bounds {l : List UInt8} {v : Int} (h : Lib.atoiAll l = .ok v) : I64 v := by
  cases l with
  | nil => cases h
  | cons c r =>
    unfold I64
    by_cases h43 : c.toNat = 43
    · have : c = 43 := UInt8.toNat_inj.1 h43
      subst this
      rw [Lib.atoiAll_plus] at h
      exact Lib.signless_bounds h
    · by_cases h45 : c.toNat = 45
      · have : c = 45 := UInt8.toNat_inj.1 h45
        subst this
        rw [Lib.atoiAll_minus] at h
        exact Lib.signed_bounds h
      · rw [Lib.atoiAll_plain c r h43 h45] at h
        exact Lib.signless_bounds h
def ReadPost (s x : ByteArray) (R : List ByteArray) (w : World) (e : Ending) (w' : World) : Prop :=
  ∃ (z : Int) (a : Nat → Int) (vp va : Value) (ps gs : List ByteArray) (ok : Bool), e = .returned (.tuple #[.agg (cellsCall z a vp va), .bool ok]) ∧ ((ok = true ∧ FromW x R z a ps gs ∧ I64A a ∧ R.length ≤ 8) ∨ (ok = false ∧ NoCall s)) ∧ OwnS w' w.heap.size vp ps ∧ OwnS w' w.heap.size va gs ∧ Below w.heap.size w w'
/-- The numbers read so far. -/
structure NumSt (R : List ByteArray) (m k : Nat) (a : Nat → Int) : Prop where
  rd : ∀ j (h : j < R.length), j < k → NumW R[j] (a j)
  zero : ∀ j, k ≤ j → j < 4 → a j = 0
  rng : I64A a
theorem NumSt.start (R : List ByteArray) (m : Nat) : NumSt R m 0 (fun _ => 0) := ⟨fun j _ h => absurd h (Nat.not_lt_zero _), fun _ _ _ => rfl, fun _ _ => ⟨by decide, by decide⟩⟩
theorem NumSt.next {R : List ByteArray} {m k : Nat} {a : Nat → Int} (h : NumSt R m k a) (hk : k < R.length) {v : Int} (hv : NumW R[k] v) (hi : I64 v) : NumSt R m (k + 1) (putA a k v) :=
  ⟨fun j hj hjk => by
    unfold putA
    split
    · rename_i e; subst e; exact hv
    · exact h.rd j hj (by omega),
   fun j h1 h2 => by unfold putA; rw [if_neg (by omega)]; exact h.zero j (by omega) h2,
   fun j hj => by
    unfold putA
    split
    · exact hi
    · exact h.rng j hj⟩
/-- The texts read so far: k of the words T, the first p of them paths. -/
structure TxtSt (T : List ByteArray) (p k : Nat) (ps gs : List ByteArray) : Prop where
  pth : ps = ((T.take k).take p).map unqS
  arg : gs = ((T.take k).drop p).map unqS
theorem TxtSt.start (T : List ByteArray) (p : Nat) : TxtSt T p 0 [] [] := ⟨by simp, by simp⟩
theorem TxtSt.nextP {T : List ByteArray} {p k : Nat} {ps gs : List ByteArray} (h : TxtSt T p k ps gs) (hk : k < T.length) (hp : k < p) : TxtSt T p (k + 1) (ps ++ [unqS T[k]]) gs := by
  have e : T.take (k + 1) = T.take k ++ [T[k]] := List.take_succ_eq_append_getElem hk
  refine ⟨?_, ?_⟩
  · have e1 : (T.take k).take p = T.take k := List.take_of_length_le (by simp; omega)
    have e2 : (T.take k ++ [T[k]]).take p = T.take k ++ [T[k]] := List.take_of_length_le (by simp; omega)
    rw [h.pth, e, e1, e2, List.map_append]; rfl
  · have e1 : (T.take k).drop p = [] := List.drop_of_length_le (by simp; omega)
    have e2 : (T.take k ++ [T[k]]).drop p = [] := List.drop_of_length_le (by simp; omega)
    rw [h.arg, e, e1, e2]
theorem TxtSt.nextG {T : List ByteArray} {p k : Nat} {ps gs : List ByteArray} (h : TxtSt T p k ps gs) (hk : k < T.length) (hp : p ≤ k) : TxtSt T p (k + 1) ps (gs ++ [unqS T[k]]) := by
  have e : T.take (k + 1) = T.take k ++ [T[k]] := List.take_succ_eq_append_getElem hk
  have hl : p ≤ (T.take k).length := by simp; omega
  refine ⟨?_, ?_⟩
  · rw [h.pth, e, List.take_append_of_le_length hl]
  · rw [h.arg, e, List.drop_append_of_le_length hl]; simp
theorem TxtSt.sizes {T : List ByteArray} {p k : Nat} {ps gs : List ByteArray} (h : TxtSt T p k ps gs) : ps.length ≤ T.length ∧ gs.length ≤ T.length := by
  rw [h.pth, h.arg]; simp; omega
theorem FromW.made {x : ByteArray} {R : List ByteArray} {z : Int} {a : Nat → Int} {ps gs : List ByteArray} (hz : z = numC x) (hn : NumSt R (rowI z).nums (rowI z).nums a) {k : Nat} (hk : (R.drop (rowI z).nums).length ≤ k) (ht : TxtSt (R.drop (rowI z).nums) (rowI z).pths k ps gs) : FromW x R z a ps gs :=
  ⟨hz, fun j h1 h2 => hn.rd j h1 h2, fun j h1 h2 => hn.zero j h1 h2, by rw [ht.pth, List.take_of_length_le hk], by rw [ht.arg, List.take_of_length_le hk]⟩
attribute [local irreducible] rowI rowC numC numS unqS unqE
set_option maxRecDepth 100000 in
set_option maxHeartbeats 16000000 in
theorem vread (s x : ByteArray) (R : List ByteArray) (w : World) (B : Nat) (ad : Addr) (cap n : Nat) (hn : n = R.length + 1) (hcap : n ≤ cap) (hB : B ≤ w.heap.size) (hS : StrsAt w B (some ad) (x :: R)) (hw : IsW 32 s (x :: R)) (hs : s.size ≤ 100000) (he : Env w) (hc : Calls10 w) :
    Calls Tryd.prog 44 #[.slice (some ad) n cap] w (ReadPost s x R w) := by
  have hsz := hw.size
  have hlR : R.length ≤ 100000 := by have := hsz.1; simp at this; omega
  have HSZ := Lib.hid (show ∀ y ∈ R, y.size ≤ 100000 from fun y hy => by have := hsz.2 y (List.mem_cons_of_mem _ hy); omega)
  have HX := Lib.hid (show x.size ≤ 100000 from by have := hsz.2 x List.mem_cons_self; omega)
  have hn1 : 1 ≤ n := by omega
  have HR : ∀ w, (Instr.sliceAt 23 (.slice (some ad) n cap) (some (.int .i64 1)) none none).run Tryd.prog w = .ok (.slice (some (fromA ad cap 1)) R.length (cap - 1)) w := fun w => by
    have := run_from ad n cap 1 hn1 w
    have e : n - 1 = R.length := by omega
    rw [e] at this
    exact this
  have HS1 := Lib.hid (show StrsAt w B (some (fromA ad cap 1)) R by
    have := hS.from (cap := cap) (by simp; omega) 1
    simpa using this)
  have hc1 : R.length ≤ cap - 1 := by omega
  generalize fromA ad cap 1 = ad1 at *
  generalize cap - 1 = cap1 at *
  obtain ⟨_, e, hadb, hx0⟩ := hS 0 (by simp)
  cases e
  simp only [List.getElem_cons_zero, Addr.add, if_true] at hx0
  have HIW := Lib.hid hw
  have HE := Lib.hid (fun (W : World) (h : Below w.heap.size w W) => he.below h)
  have HC := Lib.hid (fun (W : World) (h : Below w.heap.size w W) => hc.below h (Nat.le_refl _))
  have hb0 : Below w.heap.size w (w.alloc (.cells (cellsCall 0 (fun _ => 0) (.slice none 0 0) (.slice none 0 0)) 25)) := (Below.refl _ _).alloc (Nat.le_refl _) _
  have st0 := PSt.new (Below.refl w.heap.size w) 0
  have qx : (w.alloc (.cells (cellsCall 0 (fun _ => 0) (.slice none 0 0) (.slice none 0 0)) 25)).cell? ad = some (.string x) := (hb0.cell (by omega)).trans hx0
  clear hw hsz hS he hc hx0 hs hn
  go_enter Tryd.func44, Tryd.ntmps44
  go_wp2_with fail
  refine (vnumber x _ (HC.out _ hb0)).mono ?_
  rintro e w1 ⟨rfl, hb1⟩
  have st1 := st0.below hb1
  clear st0 qx hb0 hb1
  have HSH := Lib.hid (vshapeI (numC x))
  have hsm := rowI_small (numC x)
  have hzr := numC_range x
  generalize hz : numC x = z at *
  have HZ := Lib.hid hz
  clear hz
  have q0 := st1.blk.cell 0
  have f0 := st1.blk.free 0
  go_wp2_with fail
  have st2 := st1.setZ z
  clear q0 f0 st1
  generalize w1.setCell ⟨w.heap.size, 0, none⟩ (.int .i64 z) = w2 at *
  generalize hr : rowI z = r at *
  have HROW := Lib.hid hr
  clear hr
  obtain ⟨nm, m, p, l, u⟩ := r
  obtain ⟨s1, s2, s3, s4, s5⟩ := hsm
  simp only at s1 s2 s3 s4 s5
  refine (HSH.out _ (HC.out _ st2.bel)).mono ?_
  rintro e w3 ⟨rfl, hb3⟩
  have st3 := st2.below hb3
  clear st2 hb3 HSH
  by_cases hz0 : z < 0
  · have NC := Lib.hid (no_shape HIW.out (.inl (by rw [HZ.out]; exact hz0)))
    have q0 := st3.blk.cell 0
    have f0 := st3.blk.free 0
    have q1 := st3.blk.cell 1
    have f1 := st3.blk.free 1
    have q2 := st3.blk.cell 2
    have f2 := st3.blk.free 2
    have q3 := st3.blk.cell 3
    have f3 := st3.blk.free 3
    have q4 := st3.blk.cell 4
    have f4 := st3.blk.free 4
    have q5 := st3.blk.cell 5
    have f5 := st3.blk.free 5
    have q6 := st3.blk.cell 6
    have f6 := st3.blk.free 6
    go_wp2_with fail
    refine bodyPost_ret (call_ret2 (fn := Tryd.f44) rfl _ _ w.heap.size _ rfl st3.back.blk rfl) rfl ?_
    exact ⟨_, _, _, _, _, _, false, rfl, .inr ⟨rfl, NC.out⟩, st3.back.op.low (by omega), st3.back.og.low (by omega), st3.back.bel⟩
  by_cases hlo : R.length < m + p + l
  · have NC := Lib.hid (no_shape HIW.out (.inr (.inl (by rw [HZ.out, HROW.out]; exact hlo))))
    have q0 := st3.blk.cell 0
    have f0 := st3.blk.free 0
    have q1 := st3.blk.cell 1
    have f1 := st3.blk.free 1
    have q2 := st3.blk.cell 2
    have f2 := st3.blk.free 2
    have q3 := st3.blk.cell 3
    have f3 := st3.blk.free 3
    have q4 := st3.blk.cell 4
    have f4 := st3.blk.free 4
    have q5 := st3.blk.cell 5
    have f5 := st3.blk.free 5
    have q6 := st3.blk.cell 6
    have f6 := st3.blk.free 6
    go_wp2_with fail
    refine bodyPost_ret (call_ret2 (fn := Tryd.f44) rfl _ _ w.heap.size _ rfl st3.back.blk rfl) rfl ?_
    exact ⟨_, _, _, _, _, _, false, rfl, .inr ⟨rfl, NC.out⟩, st3.back.op.low (by omega), st3.back.og.low (by omega), st3.back.bel⟩
  by_cases hhi : m + p + u < R.length
  · have NC := Lib.hid (no_shape HIW.out (.inr (.inr (by rw [HZ.out, HROW.out]; exact hhi))))
    have q0 := st3.blk.cell 0
    have f0 := st3.blk.free 0
    have q1 := st3.blk.cell 1
    have f1 := st3.blk.free 1
    have q2 := st3.blk.cell 2
    have f2 := st3.blk.free 2
    have q3 := st3.blk.cell 3
    have f3 := st3.blk.free 3
    have q4 := st3.blk.cell 4
    have f4 := st3.blk.free 4
    have q5 := st3.blk.cell 5
    have f5 := st3.blk.free 5
    have q6 := st3.blk.cell 6
    have f6 := st3.blk.free 6
    go_wp2_with fail
    refine bodyPost_ret (call_ret2 (fn := Tryd.f44) rfl _ _ w.heap.size _ rfl st3.back.blk rfl) rfl ?_
    exact ⟨_, _, _, _, _, _, false, rfl, .inr ⟨rfl, NC.out⟩, st3.back.op.low (by omega), st3.back.og.low (by omega), st3.back.bel⟩
  have HR2 : ∀ w, (Instr.sliceAt 23 (.slice (some ad1) R.length cap1) (some (.int .i64 (m : Int))) none none).run Tryd.prog w = .ok (.slice (some (fromA ad1 cap1 m)) (R.drop m).length (cap1 - m)) w := fun w => by
    have := run_from ad1 R.length cap1 m (by omega) w
    rw [List.length_drop]
    exact this
  have HS2 := Lib.hid (HS1.out.from hc1 m)
  have HTR := Lib.hid (show ∀ k (h : k < (R.drop m).length), unqE (R.drop m)[k] ≠ 0 → NoCall s from fun k h hu => no_text HIW.out (j := m + k) (by simp at h; omega) (by rw [HZ.out, HROW.out]; show m ≤ m + k; omega) (by rwa [List.getElem_drop] at hu))
  have HTS := Lib.hid (show ∀ y ∈ R.drop m, y.size ≤ 100000 from fun y hy => HSZ.out y (List.mem_of_mem_drop hy))
  have HFW := Lib.hid (show ∀ a ps gs k, NumSt R m m a → (R.drop m).length ≤ k → TxtSt (R.drop m) p k ps gs → FromW x R z a ps gs from fun a ps gs k h1 h2 h3 => FromW.made HZ.out.symm (by rw [HROW.out]; exact h1) (k := k) (by rw [HROW.out]; exact h2) (by rw [HROW.out]; exact h3))
  have hTl : (R.drop m).length ≤ 100000 := by simp; omega
  generalize fromA ad1 cap1 m = ad2 at *
  generalize cap1 - m = cap2 at *
  generalize hT : R.drop m = T at *
  clear hT
  have hnums := NumSt.start R m
  have q0 := st3.blk.cell 0
  go_wp2_with fail
  clear q0
  go_loopw [55] (fun i wr => ∃ (k : Nat) (a : Nat → Int), k ≤ m ∧ i = .int .i64 (k : Int) ∧ NumSt R m k a ∧ PSt w wr w.heap.size z a (.slice none 0 0) (.slice none 0 0) [] []) (fun i _ => m - (intOf i).toNat)
  case atStart => exact ⟨0, _, Nat.zero_le _, rfl, hnums, st3⟩
  case round =>
    obtain ⟨k, a, hk, rfl, hnum, hst⟩ := hrel
    clear hnums st3
    by_cases hkm : k < m
    · have hkR : k < R.length := by omega
      obtain ⟨_, e, hadb1, hcell⟩ := HS1.out.keep hst.bel hB k hkR
      cases e
      have hyz := HSZ.out _ (List.getElem_mem hkR)
      by_cases hv : ∃ v, Lib.atoiAll R[k].data.toList = .ok v
      · obtain ⟨v, hv⟩ := hv
        have HN := Lib.hid (hnum.next hkR (numW_atoi hv) (atoi_bounds hv))
        have HA := Lib.hid (vatoi_ok R[k] (by omega) v hv)
        clear hv hnum
        generalize R[k] = y at *
        go_wp2_with fail
        refine (HA.out _).mono ?_
        rintro e w4 ⟨rfl, hb4⟩
        have st4 := hst.below hb4
        clear hst hb4 HA hcell
        have hcs : k = 0 ∨ k = 1 := by omega
        rcases hcs with rfl | rfl
        · have q := st4.blk.cell 1
          have f := st4.blk.free 1
          go_wp2_with fail
          go_roundw
          case rel => exact ⟨1, _, by omega, by go_num, HN.out, st4.setA 0 (by omega) v⟩
          case measure => simp [intOf]; omega
        · have q := st4.blk.cell 2
          have f := st4.blk.free 2
          go_wp2_with fail
          go_roundw
          case rel => exact ⟨2, _, by omega, by go_num, HN.out, st4.setA 1 (by omega) v⟩
          case measure => simp [intOf]; omega
      · have NC := Lib.hid (no_num HIW.out hkR (by rw [HZ.out, HROW.out]; exact hkm) (by rw [HZ.out, HROW.out]; show m ≤ 4; omega) (fun v h => hv ⟨v, h⟩))
        have HA := Lib.hid (vatoi_bad R[k] (by omega) (fun v h => hv ⟨v, h⟩) wr (HE.out _ hst.bel))
        clear hv hnum
        generalize R[k] = y at *
        go_wp2_with fail
        refine HA.out.mono ?_
        rintro e w4 ⟨v, N, rfl, hb4⟩
        have st4 := hst.below hb4
        clear hst hb4 HA hcell
        have q0 := st4.blk.cell 0
        have f0 := st4.blk.free 0
        have q1 := st4.blk.cell 1
        have f1 := st4.blk.free 1
        have q2 := st4.blk.cell 2
        have f2 := st4.blk.free 2
        have q3 := st4.blk.cell 3
        have f3 := st4.blk.free 3
        have q4 := st4.blk.cell 4
        have f4 := st4.blk.free 4
        have q5 := st4.blk.cell 5
        have f5 := st4.blk.free 5
        have q6 := st4.blk.cell 6
        have f6 := st4.blk.free 6
        go_wp2_with fail
        refine bodyPost_ret (call_ret2 (fn := Tryd.f44) rfl _ _ w.heap.size _ rfl st4.back.blk rfl) rfl ?_
        exact ⟨_, _, _, _, _, _, false, rfl, .inr ⟨rfl, NC.out⟩, st4.back.op.low (by omega), st4.back.og.low (by omega), st4.back.bel⟩
    · obtain rfl : m = k := by omega
      go_wp2_with fail
      have htx := TxtSt.start T p
      have HNUM := Lib.hid hnum
      clear hnum
      go_loopw [78] (fun i wr => ∃ (k : Nat) (vp va : Value) (ps gs : List ByteArray), k ≤ T.length ∧ i = .int .i64 (k : Int) ∧ TxtSt T p k ps gs ∧ PSt w wr w.heap.size z a vp va ps gs) (fun i _ => T.length - (intOf i).toNat)
      case atStart => exact ⟨0, _, _, _, _, Nat.zero_le _, rfl, htx, hst⟩
      case round =>
        obtain ⟨k, vp, va, ps, gs, hk, rfl, htx, hst⟩ := hrel
        by_cases hkT : k < T.length
        · obtain ⟨_, e, hadb2, hcell⟩ := HS2.out.keep hst.bel hB k hkT
          cases e
          have hyz := HTS.out _ (List.getElem_mem hkT)
          have hln := htx.sizes
          obtain ⟨hln1, hln2⟩ := hln
          have HU := Lib.hid (vunquote T[k] wr (by omega) (HE.out _ hst.bel).tab)
          by_cases hu : unqE T[k] = 0
          · have tu : (unqE T[k] != 0) = false := by simpa using hu
            clear hu
            by_cases hkp : k < p
            · have HTX := Lib.hid (htx.nextP hkT hkp)
              clear htx
              generalize T[k] = y at *
              go_wp2_with fail
              refine HU.out.mono ?_
              rintro e w4 ⟨rfl, hb4⟩
              have st4 := hst.below hb4
              clear hst hb4 HU hcell
              generalize unqS y = t at *
              have q5 : w4.cell? ⟨w.heap.size, 5, none⟩ = some vp := st4.blk.cell 5
              have hlt4 : w.heap.size < w4.heap.size := st4.lt
              go_wp2_with (at_builtin; refine wpList_append_strs rfl (.tmp 95) (.tmp 97) rfl (w.heap.size + 1) vp ps rfl (st4.op.alloc _) (w4.heap.size + 1) (some ⟨w4.heap.size, 0, none⟩) 1 1 [t] rfl rfl (one_new w4 _ 9) (by simp; omega) (by simp; omega) ?_; intro v5 w5 own5 hg5 hat5; obtain ⟨g5, c5, hv5⟩ := Joins.ownsRow_form own5.out (by simp); subst hv5; have st5 := st4.addP own5 hg5 hat5; have q5' : w5.cell? ⟨w.heap.size, 5, none⟩ = some vp := (((st4.blk.alloc _).grown hg5 (fun e => by have := st4.op.ge _ e; omega)).cell 5); have f5' := ((st4.blk.alloc (.cells #[.string t] 9)).grown hg5 (fun e => by have := st4.op.ge _ e; omega)).free 5)
              clear q5 q5' f5' own5 hg5 hat5 st4
              go_wp2_with fail
              go_roundw
              case rel => exact ⟨k + 1, _, _, _, _, by omega, by go_num, HTX.out, (by have k5 := st5; rw [List.length_append] at k5; exact k5)⟩
              case measure => simp [intOf]; omega
            · have HTX := Lib.hid (htx.nextG hkT (by omega))
              clear htx
              generalize T[k] = y at *
              go_wp2_with fail
              refine HU.out.mono ?_
              rintro e w4 ⟨rfl, hb4⟩
              have st4 := hst.below hb4
              clear hst hb4 HU hcell
              generalize unqS y = t at *
              have q6 : w4.cell? ⟨w.heap.size, 6, none⟩ = some va := st4.blk.cell 6
              have hlt4 : w.heap.size < w4.heap.size := st4.lt
              go_wp2_with (at_builtin; refine wpList_append_strs rfl (.tmp 101) (.tmp 103) rfl (w.heap.size + 1) va gs rfl (st4.og.alloc _) (w4.heap.size + 1) (some ⟨w4.heap.size, 0, none⟩) 1 1 [t] rfl rfl (one_new w4 _ 9) (by simp; omega) (by simp; omega) ?_; intro v5 w5 own5 hg5 hat5; obtain ⟨g5, c5, hv5⟩ := Joins.ownsRow_form own5.out (by simp); subst hv5; have st5 := st4.addG own5 hg5 hat5; have q6' : w5.cell? ⟨w.heap.size, 6, none⟩ = some va := (((st4.blk.alloc _).grown hg5 (fun e => by have := st4.og.ge _ e; omega)).cell 6); have f6' := ((st4.blk.alloc (.cells #[.string t] 9)).grown hg5 (fun e => by have := st4.og.ge _ e; omega)).free 6)
              clear q6 q6' f6' own5 hg5 hat5 st4
              go_wp2_with fail
              go_roundw
              case rel => exact ⟨k + 1, _, _, _, _, by omega, by go_num, HTX.out, (by have k5 := st5; rw [List.length_append] at k5; exact k5)⟩
              case measure => simp [intOf]; omega
          · have tu : (unqE T[k] != 0) = true := by simpa using hu
            have NC := Lib.hid (HTR.out k hkT hu)
            clear hu htx
            generalize T[k] = y at *
            go_wp2_with fail
            refine HU.out.mono ?_
            rintro e w4 ⟨rfl, hb4⟩
            have st4 := hst.below hb4
            clear hst hb4 HU hcell
            obtain ⟨Ap, cp, e1, _⟩ := st4.op.strs
            obtain ⟨Ag, cg, e2, _⟩ := st4.og.strs
            subst e1 e2
            have q0 := st4.blk.cell 0
            have f0 := st4.blk.free 0
            have q1 := st4.blk.cell 1
            have f1 := st4.blk.free 1
            have q2 := st4.blk.cell 2
            have f2 := st4.blk.free 2
            have q3 := st4.blk.cell 3
            have f3 := st4.blk.free 3
            have q4 := st4.blk.cell 4
            have f4 := st4.blk.free 4
            have q5 := st4.blk.cell 5
            have f5 := st4.blk.free 5
            have q6 := st4.blk.cell 6
            have f6 := st4.blk.free 6
            go_wp2_with fail
            refine bodyPost_ret (call_ret2 (fn := Tryd.f44) rfl _ _ w.heap.size _ rfl st4.back.blk rfl) rfl ?_
            exact ⟨_, _, _, _, _, _, false, rfl, .inr ⟨rfl, NC.out⟩, st4.back.op.low (by omega), st4.back.og.low (by omega), st4.back.bel⟩
        · have HF := Lib.hid (HFW.out a ps gs k HNUM.out (by omega) htx)
          clear htx
          obtain ⟨Ap, cp, e1, _⟩ := hst.op.strs
          obtain ⟨Ag, cg, e2, _⟩ := hst.og.strs
          subst e1 e2
          have q0 := hst.blk.cell 0
          have f0 := hst.blk.free 0
          have q1 := hst.blk.cell 1
          have f1 := hst.blk.free 1
          have q2 := hst.blk.cell 2
          have f2 := hst.blk.free 2
          have q3 := hst.blk.cell 3
          have f3 := hst.blk.free 3
          have q4 := hst.blk.cell 4
          have f4 := hst.blk.free 4
          have q5 := hst.blk.cell 5
          have f5 := hst.blk.free 5
          have q6 := hst.blk.cell 6
          have f6 := hst.blk.free 6
          go_wp2_with fail
          refine bodyPost_ret (call_ret2 (fn := Tryd.f44) rfl _ _ w.heap.size _ rfl hst.back.blk rfl) rfl ?_
          exact ⟨_, _, _, _, _, _, true, rfl, .inl ⟨rfl, HF.out, HNUM.out.rng, by omega⟩, hst.back.op.low (by omega), hst.back.og.low (by omega), hst.back.bel⟩
end Go.Proofs.YtokkbboahajbhaaDoor
/- The walk of call.Parse: the call that Format writes as s, or the error. -/
namespace Go.Proofs.YtokkbboahajbhaaDoor
open Go.RowKit
/-- The seven cells of block g written one after the other. -/
abbrev set7 (w : World) (g : Nat) (z : Int) (a : Nat → Int) (vp va : Value) : World :=
  ((((((w.setCell ⟨g, 0, none⟩ (.int .i64 z)).setCell ⟨g, 1, none⟩ (.int .i64 (a 0))).setCell ⟨g, 2, none⟩ (.int .i64 (a 1))).setCell ⟨g, 3, none⟩ (.int .i64 (a 2))).setCell ⟨g, 4, none⟩ (.int .i64 (a 3))).setCell ⟨g, 5, none⟩ vp).setCell ⟨g, 6, none⟩ va
theorem own7 {w : World} {lo g : Nat} {v : Value} {L : List ByteArray} (h : OwnS w lo v L) (hg : g < lo) (z : Int) (a : Nat → Int) (vp va : Value) : OwnS (set7 w g z a vp va) lo v L :=
  ((((((h.put1 (p := ⟨g, 0, none⟩) hg _).put1 (p := ⟨g, 1, none⟩) hg _).put1 (p := ⟨g, 2, none⟩) hg _).put1 (p := ⟨g, 3, none⟩) hg _).put1 (p := ⟨g, 4, none⟩) hg _).put1 (p := ⟨g, 5, none⟩) hg _).put1 (p := ⟨g, 6, none⟩) hg _
theorem below7 {w0 w : World} {B g : Nat} (h : Below B w0 w) (hg : B ≤ g) (z : Int) (a : Nat → Int) (vp va : Value) : Below B w0 (set7 w g z a vp va) :=
  ((((((h.setCell (p := ⟨g, 0, none⟩) hg _).setCell (p := ⟨g, 1, none⟩) hg _).setCell (p := ⟨g, 2, none⟩) hg _).setCell (p := ⟨g, 3, none⟩) hg _).setCell (p := ⟨g, 4, none⟩) hg _).setCell (p := ⟨g, 5, none⟩) hg _).setCell (p := ⟨g, 6, none⟩) hg _
theorem blk7 {w : World} {g : Nat} {t : TypeId} {z0 : Int} {a0 : Nat → Int} {p0 q0 : Value} (h : Blk w g t (cellsCall z0 a0 p0 q0)) (z : Int) (a : Nat → Int) (vp va : Value) : Blk (set7 w g z a vp va) g t (cellsCall z a vp va) := by
  have h0 : Blk _ g t #[.int .i64 z, .int .i64 (a0 0), .int .i64 (a0 1), .int .i64 (a0 2), .int .i64 (a0 3), p0, q0] := h.put 0 (.int .i64 z)
  have h1 : Blk _ g t #[.int .i64 z, .int .i64 (a 0), .int .i64 (a0 1), .int .i64 (a0 2), .int .i64 (a0 3), p0, q0] := h0.put 1 (.int .i64 (a 0))
  have h2 : Blk _ g t #[.int .i64 z, .int .i64 (a 0), .int .i64 (a 1), .int .i64 (a0 2), .int .i64 (a0 3), p0, q0] := h1.put 2 (.int .i64 (a 1))
  have h3 : Blk _ g t #[.int .i64 z, .int .i64 (a 0), .int .i64 (a 1), .int .i64 (a 2), .int .i64 (a0 3), p0, q0] := h2.put 3 (.int .i64 (a 2))
  have h4 : Blk _ g t #[.int .i64 z, .int .i64 (a 0), .int .i64 (a 1), .int .i64 (a 2), .int .i64 (a 3), p0, q0] := h3.put 4 (.int .i64 (a 3))
  have h5 : Blk _ g t #[.int .i64 z, .int .i64 (a 0), .int .i64 (a 1), .int .i64 (a 2), .int .i64 (a 3), vp, q0] := h4.put 5 vp
  exact h5.put 6 va
def CParsePost (s : ByteArray) (w : World) (e : Ending) (w' : World) : Prop :=
  ∃ (z : Int) (a : Nat → Int) (vp va : Value) (ps gs : List ByteArray) (er : Int), e = .returned (.tuple #[.agg (cellsCall z a vp va), .int .i64 er]) ∧ CIs s z a ps gs er ∧ OwnS w' w.heap.size vp ps ∧ OwnS w' w.heap.size va gs ∧ Below w.heap.size w w'
def SplitPost (s : ByteArray) (w : World) (e : Ending) (w' : World) : Prop :=
  ∃ (x : ByteArray) (R : List ByteArray) (ad : Addr), e = .returned (.slice (some ad) (R.length + 1) (R.length + 1)) ∧ IsW 32 s (x :: R) ∧ StrsAt w' w'.heap.size (some ad) (x :: R) ∧ Below w.heap.size w w'
theorem strs_whole (w : World) (L : List ByteArray) (t : TypeId) : StrsAt (w.alloc (.cells (L.map Value.string).toArray t)) (w.alloc (.cells (L.map Value.string).toArray t)).heap.size (some ⟨w.heap.size, 0, none⟩) L := fun k hk => by
  refine ⟨_, rfl, by simp, ?_⟩
  have e : (⟨w.heap.size, 0, none⟩ : Addr).add k = ⟨w.heap.size, k, none⟩ := by
    unfold Addr.add
    split
    · rename_i h; rw [h]
    · simp
  rw [e, (Blk.new w (L.map Value.string).toArray t).cell]
  simp [List.getElem?_eq_getElem hk]
theorem vsplit (s : ByteArray) (hs : s.size ≤ 100000) (w : World) (he : Mx w) :
    Calls Tryd.prog 45 #[.string s, .string ⟨#[32]⟩] w (SplitPost s w) := by
  obtain ⟨m, hm⟩ := he
  refine (Tryd.strings_Split s ⟨#[32]⟩ m w (by omega) hm (by decide)).mono ?_
  rintro e w' ⟨rfl, rfl⟩
  have hw := isW_split 32 _ s rfl
  have hl := Lib.splitB_all ⟨#[32]⟩ (by decide) 0 _ s rfl
  have hS := strs_whole w (Lib.splitB ⟨#[32]⟩ 0 (Lib.countB s ⟨#[32]⟩) s) 9
  generalize Lib.splitB ⟨#[32]⟩ 0 (Lib.countB s ⟨#[32]⟩) s = L at *
  generalize Lib.countB s ⟨#[32]⟩ = k at *
  cases L with
  | nil => exact absurd rfl hw.ne
  | cons x R =>
    obtain rfl : R.length = k := by simpa using hl
    exact ⟨x, R, _, rfl, hw, hS, (Below.refl _ _).alloc (Nat.le_refl _) _⟩
theorem FromW.sizes {x : ByteArray} {R : List ByteArray} {z : Int} {a : Nat → Int} {ps gs : List ByteArray} (h : FromW x R z a ps gs) (hl : R.length ≤ 8) : ps.length ≤ 8 ∧ gs.length ≤ 8 ∧ (∀ s ∈ ps, s.size ≤ 640) ∧ (∀ s ∈ gs, s.size ≤ 640) := by
  refine ⟨?_, ?_, ?_, ?_⟩
  · rw [h.pth]; simp; omega
  · rw [h.arg]; simp; omega
  · intro s hs
    rw [h.pth] at hs
    obtain ⟨y, _, rfl⟩ := List.mem_map.1 hs
    exact unqS_size y
  · intro s hs
    rw [h.arg] at hs
    obtain ⟨y, _, rfl⟩ := List.mem_map.1 hs
    exact unqS_size y
attribute [local irreducible] rowI rowC numC numS unqS unqE callS callE
set_option maxRecDepth 100000 in
set_option maxHeartbeats 8000000 in
theorem vparse10 (s : ByteArray) (hs : s.size ≤ 100000) (w : World) (he : Env w) (hc : Calls10 w) :
    Calls Tryd.prog 27 #[.string s] w (CParsePost s w) := by
  have HE := Lib.hid (fun (W : World) (h : Below w.heap.size w W) => he.below h)
  have HC := Lib.hid (fun (W : World) (h : Below w.heap.size w W) => hc.below h (Nat.le_refl _))
  have hb0 : Below w.heap.size w (w.alloc (.cells (cellsCall 0 (fun _ => 0) (.slice none 0 0) (.slice none 0 0)) 25)) := (Below.refl _ _).alloc (Nat.le_refl _) _
  have R0 := Blk.new w (cellsCall 0 (fun _ => 0) (.slice none 0 0) (.slice none 0 0)) 25
  clear he hc
  go_enter Tryd.func27, Tryd.ntmps27
  go_wp2_with fail
  refine (vsplit s hs _ (HE.out _ hb0).mx).mono ?_
  rintro e w1 ⟨x, R, ad, rfl, hw, hS, hb1⟩
  have R1 := R0.below hb1
  have b1 := below_then hb0 hb1
  have hlt1 := R1.lt
  have HW := Lib.hid hw
  clear R0 hb0 hb1 hw
  go_wp2_with fail
  refine (vread s x R w1 w1.heap.size ad _ _ rfl (Nat.le_refl _) (Nat.le_refl _) hS HW.out hs (HE.out _ b1) (HC.out _ b1)).mono ?_
  rintro e w2 ⟨z, a, vp, va, ps, gs, ok, rfl, hres, hop, hog, hb2⟩
  have R2 := R1.below hb2
  have b2 := below_then b1 hb2
  have hlt2 : w1.heap.size ≤ w2.heap.size := hb2.size
  obtain ⟨P, cp, e1, hP⟩ := hop.strs
  obtain ⟨A, ca, e2, hA⟩ := hog.strs
  subst e1 e2
  clear R1 b1 hb2 hS
  have hal : Below w2.heap.size w2 (w2.alloc (.cells (cellsCall z a (.slice P ps.length cp) (.slice A gs.length ca)) 25)) := (Below.refl _ _).alloc (Nat.le_refl _) _
  have R3 := R2.below hal
  have C3 := Blk.new w2 (cellsCall z a (.slice P ps.length cp) (.slice A gs.length ca)) 25
  have hop3 := hop.below hal
  have hog3 := hog.below hal
  have b3 := below_then b2 hal
  have hP3 := hP.keep hal (Nat.le_refl _)
  have hA3 := hA.keep hal (Nat.le_refl _)
  clear R2 b2 hop hog hP hA
  rcases hres with ⟨rfl, hF, hI, hl8⟩ | ⟨rfl, hN⟩
  · have hsz := hF.sizes hl8
    obtain ⟨z1, z2, z3, z4⟩ := hsz
    have HV := Lib.hid (vformat10 z a P cp A ca ps gs (w2.alloc (.cells (cellsCall z a (.slice P ps.length cp) (.slice A gs.length ca)) 25)) w2.heap.size (by simp) hP3 hA3 (by omega) (by omega) (fun s hs => by have := z3 s hs; unfold maxLen; omega) (fun s hs => by have := z4 s hs; unfold maxLen; omega) (fun j hj => hI j hj) (HC.out _ b3) (HE.out _ b3).tab (HE.out _ b3).pow)
    have HF := Lib.hid hF
    have HI := Lib.hid hI
    clear hF hI z3 z4 hP3 hA3
    have q0 := C3.cell 0
    have q1 := C3.cell 1
    have q2 := C3.cell 2
    have q3 := C3.cell 3
    have q4 := C3.cell 4
    have q5 := C3.cell 5
    have q6 := C3.cell 6
    go_wp2_with fail
    refine HV.out.mono ?_
    rintro e w4 ⟨rfl, hb4⟩
    have R4 := R3.below hb4
    have C4 := C3.below hb4
    have op4 := hop3.below hb4
    have og4 := hog3.below hb4
    have b4 := below_then b3 hb4
    clear R3 C3 hop3 hog3 b3 q0 q1 q2 q3 q4 q5 q6 HV hb4 hal
    have q0 := C4.cell 0
    have q1 := C4.cell 1
    have q2 := C4.cell 2
    have q3 := C4.cell 3
    have q4 := C4.cell 4
    have q5 := C4.cell 5
    have q6 := C4.cell 6
    have r0 := R4.cell 0
    have r1 := R4.cell 1
    have r2 := R4.cell 2
    have r3 := R4.cell 3
    have r4 := R4.cell 4
    have r5 := R4.cell 5
    have r6 := R4.cell 6
    have f0 := R4.free 0
    have f1 := R4.free 1
    have f2 := R4.free 2
    have f3 := R4.free 3
    have f4 := R4.free 4
    have f5 := R4.free 5
    have f6 := R4.free 6
    by_cases h0 : callE z a ps gs = 0
    · by_cases h1 : callS z a ps gs = s
      · have HCI := Lib.hid (show CIs s z a ps gs 0 from .inl ⟨rfl, h0, h1, HI.out⟩)
        have t1 := str_eq h1
        rw [h0]
        clear h0 h1
        go_wp2_with fail
        refine bodyPost_ret (call_ret2 (fn := Tryd.f27) rfl _ _ w.heap.size _ rfl (blk7 R4 z a (.slice P ps.length cp) (.slice A gs.length ca)) rfl) rfl ?_
        exact ⟨_, _, _, _, _, _, 0, rfl, HCI.out, (own7 op4 (by omega) z a _ _).low (by omega), (own7 og4 (by omega) z a _ _).low (by omega), below7 b4 (Nat.le_refl _) z a _ _⟩
      · have HCI := Lib.hid (CIs.no (CIs.tested HF.out HW.out (fun h => h1 h.2)) (a := fun _ => 0) (fun _ _ => rfl))
        have t1 := str_ne h1
        rw [h0]
        clear h0 h1
        go_wp2_with fail
        refine bodyPost_ret (call_ret2 (fn := Tryd.f27) rfl _ _ w.heap.size _ rfl (blk7 R4 0 (fun _ => 0) (.slice none 0 0) (.slice none 0 0)) rfl) rfl ?_
        exact ⟨_, _, _, _, _, _, 103, rfl, HCI.out, OwnS.nil _ _, OwnS.nil _ _, below7 b4 (Nat.le_refl _) 0 (fun _ => 0) _ _⟩
    · have HCI := Lib.hid (CIs.no (CIs.tested HF.out HW.out (fun h => h0 h.1)) (a := fun _ => 0) (fun _ _ => rfl))
      have t0 : (callE z a ps gs != 0) = true := by simpa using h0
      clear h0
      go_wp2_with fail
      refine bodyPost_ret (call_ret2 (fn := Tryd.f27) rfl _ _ w.heap.size _ rfl (blk7 R4 0 (fun _ => 0) (.slice none 0 0) (.slice none 0 0)) rfl) rfl ?_
      exact ⟨_, _, _, _, _, _, 103, rfl, HCI.out, OwnS.nil _ _, OwnS.nil _ _, below7 b4 (Nat.le_refl _) 0 (fun _ => 0) _ _⟩
  · have HCI := Lib.hid (CIs.no hN (a := fun _ => 0) (fun _ _ => rfl))
    clear hN hop3 hog3 hP3 hA3
    have r0 := R3.cell 0
    have r1 := R3.cell 1
    have r2 := R3.cell 2
    have r3 := R3.cell 3
    have r4 := R3.cell 4
    have r5 := R3.cell 5
    have r6 := R3.cell 6
    have f0 := R3.free 0
    have f1 := R3.free 1
    have f2 := R3.free 2
    have f3 := R3.free 3
    have f4 := R3.free 4
    have f5 := R3.free 5
    have f6 := R3.free 6
    go_wp2_with fail
    refine bodyPost_ret (call_ret2 (fn := Tryd.f27) rfl _ _ w.heap.size _ rfl (blk7 R3 0 (fun _ => 0) (.slice none 0 0) (.slice none 0 0)) rfl) rfl ?_
    exact ⟨_, _, _, _, _, _, 103, rfl, HCI.out, OwnS.nil _ _, OwnS.nil _ _, below7 b3 (Nat.le_refl _) 0 (fun _ => 0) _ _⟩
end Go.Proofs.YtokkbboahajbhaaDoor
/- Unquote of the reference, where the text is written in hexadecimal digits; all cases together. -/
namespace Go.Proofs.YtokkbboahajbhaaDoor
open Go.RowKit
/-- What is left to be read behind the letter x, behind what has been read. -/
def Left2 (s : ByteArray) (i : Nat) (acc : List UInt8) : Prop := unhexL s.data.toList.tail = (unhexL (s.data.toList.drop i)).map (acc ++ ·)
theorem Left2.start (s : ByteArray) : Left2 s 1 [] := by unfold Left2; rw [List.drop_one]; simp
theorem Left2.step {s : ByteArray} {i : Nat} {acc : List UInt8} (h : Left2 s i acc) (h0 : i < s.size) (hj : i + 1 < s.size) (ha : 0 ≤ unhexd s[i]) (hb : 0 ≤ unhexd s[i + 1]) : Left2 s (i + 2) (acc ++ [pairc s[i] s[i + 1]]) := by
  unfold Left2 at *
  rw [h, drop_two s i h0 hj, unhexL, if_neg (by omega)]
  cases unhexL (s.data.toList.drop (i + 2)) <;> simp
theorem Left2.stop {s : ByteArray} {i : Nat} {acc : List UInt8} (h : Left2 s i acc) (h0 : i < s.size) (hj : i + 1 < s.size) (ha : unhexd s[i] < 0 ∨ unhexd s[i + 1] < 0) : unhexL s.data.toList.tail = none := by
  unfold Left2 at h
  rw [h, drop_two s i h0 hj, unhexL, if_pos ha]; rfl
theorem Left2.done {s : ByteArray} {i : Nat} {acc : List UInt8} (h : Left2 s i acc) (hj : s.size ≤ i) : unhexL s.data.toList.tail = some acc := by
  unfold Left2 at h
  rw [h, List.drop_eq_nil_of_le (by simpa using hj)]; simp [unhexL]
theorem app_one (T : ByteArray) (c : UInt8) : (T ++ ⟨#[c]⟩).data.toList = T.data.toList ++ [c] := by simp
set_option maxRecDepth 100000 in
set_option maxHeartbeats 2000000 in
theorem runq_R2 (s : ByteArray) (w : World) (h3 : 3 ≤ s.size) (h5 : s.size ≤ 1281) (h34 : ((s[0].toNat : Int) == 34) = false) (h120 : ((s[0].toNat : Int) == 120) = true) (ho : s.size % 2 = 1) : RUnq s w := by
  have h4 : ((s.size : Int) % 2 == 1) = true := by simp; omega
  have hp : 0 < s.size := by omega
  have d1 : decide (2 ≤ (s.size : Int)) = true := by simp; omega
  have d2 : decide (3 ≤ (s.size : Int)) = true := by simp; omega
  have d3 : decide ((s.size : Int) ≤ 1281) = true := by simp; omega
  have HO := Lib.hid ho
  have HN := Lib.hid (fun (u : List UInt8) (hu : Quotes s.data.toList u) => (quotes_B (by omega) h34 hu).2.2.2.2)
  clear ho
  go_enter Tryd.func57, Tryd.ntmps57
  go_wp2_with fail
  go_loopw [4, 5] (fun v x wr => ∃ (i : Nat) (T : ByteArray), i ≤ s.size ∧ x = .int .i64 (i : Int) ∧ v = .string T ∧ T.size ≤ 1000 ∧ Below w.heap.size w wr ∧ Hid (Left2 s i T.data.toList ∧ 1 + 2 * T.size = i)) (fun _ i _ => s.size - (intOf i).toNat)
  case atStart => exact ⟨1, ⟨#[]⟩, by omega, rfl, rfl, by decide, Below.refl _ _, Left2.start s, rfl⟩
  case round =>
    obtain ⟨i, T, hj, rfl, rfl, hT, hb, hleft⟩ := hrel
    by_cases hlt : i < s.size
    · have hlt1 : i + 1 < s.size := by have := HO.out; have := hleft.out.2; omega
      have a1 : (0 : Int) ≤ (i : Int) := by omega
      have a2 : (i : Int) < (s.size : Int) := by omega
      have a3 : (0 : Int) ≤ (i : Int) + 1 := by omega
      have a4 : (i : Int) + 1 < (s.size : Int) := by omega
      have b1 := unhexd_bounds s[i]
      have b2 := unhexd_bounds s[i + 1]
      have a5 : IntKind.i64.wrap ((i : Int) + 1) = (i : Int) + 1 := IntWalk.i64_in _ (by omega)
      have a6 : ((i : Int) + 1).toNat = i + 1 := by omega
      go_wp2_with fail
      go_quiet ((go_at_call 66; exact Calls.quiet_of_same (rdigit _ _)))
      clear a5
      by_cases n1 : unhexd s[i] < 0
      · have H := Lib.hid (unqO_none fun u hu => by have := HN.out u hu; rw [hleft.out.1.stop hlt hlt1 (.inl n1)] at this; cases this)
        go_wp2_with fail
        go_ret2
        exact ⟨tup (unqS_none H.out).symm (unqE_none H.out).symm, below_drewN hb _⟩
      · by_cases n2 : unhexd s[i + 1] < 0
        · have H := Lib.hid (unqO_none fun u hu => by have := HN.out u hu; rw [hleft.out.1.stop hlt hlt1 (.inr n2)] at this; cases this)
          go_wp2_with fail
          go_ret2
          exact ⟨tup (unqS_none H.out).symm (unqE_none H.out).symm, below_drewN hb _⟩
        · have m1 : 0 ≤ unhexd s[i] := by omega
          have m2 : 0 ≤ unhexd s[i + 1] := by omega
          have m3 : unhexd s[i] < 16 := b1.2
          have m4 : unhexd s[i + 1] < 16 := b2.2
          have H := Lib.hid (hleft.out.1.step hlt hlt1 m1 m2)
          clear b1 b2 n1 n2
          have m5 := (pairc_val _ _ m1 m2).symm
          have hcv : (convert 50 9 (.slice (some ⟨wr.heap.size, 0, none⟩) 1 1)).run Tryd.prog ((wr.drewN nq).alloc (.cells #[bv (pairc s[i] s[i + 1])] 5)) = .ok (.string ⟨#[pairc s[i] s[i + 1]]⟩) ((wr.drewN nq).alloc (.cells #[bv (pairc s[i] s[i + 1])] 5)) :=
            run_convert_bytes_back _ 50 9 5 ⟨wr.heap.size, 0, none⟩ 1 [pairc s[i] s[i + 1]] Tryd.underlying50 Tryd.underlying5 Tryd.underlying9 (fun j hj => by
              have : j = 0 := by simpa using hj
              subst this
              exact cell_one_new _ _ _ 0 _ rfl)
          go_wp2_with fail
          refine ⟨⟨i + 2, T ++ ⟨#[pairc s[i] s[i + 1]]⟩, by omega, by go_num, rfl, ?_, (below_drewN hb nq).alloc hb.size _, ?_, ?_⟩, by simp [intOf]; omega⟩
          · have := hleft.out.2; rw [ByteArray.size_append]; show T.size + 1 ≤ 1000; omega
          · rw [app_one]; exact H.out
          · have := hleft.out.2; rw [ByteArray.size_append]; show 1 + 2 * (T.size + 1) = i + 2; omega
    · have HD := Lib.hid (hleft.out.1.done (by omega))
      by_cases hok : quoteE T = 0 ∧ quoteS T = s
      · have H := Lib.hid (unq_yes hok)
        obtain ⟨k1, k2⟩ := hok
        have K1 := Lib.hid k1
        have K2 := Lib.hid k2
        clear k1 k2
        go_wp2_with fail
        refine (rquote _ _ (by unfold maxLen; omega)).mono ?_
        rintro e w' ⟨rfl, hb'⟩
        rw [K1.out, K2.out]
        go_wp2_with fail
        go_ret2
        exact ⟨tup (by rw [unqS_some H.out]) (unqE_some H.out).symm, hb.trans (hb'.mono hb.size)⟩
      · have H := Lib.hid (unqO_none fun u hu => by
          have := HN.out u hu
          rw [HD.out] at this
          injection this with this
          exact hok ((quotes_iff s T).2 (by rw [this]; exact hu)))
        have hE : quoteE T = 0 := quoteE_zero.2 (by have := hleft.out.2; omega)
        have k3 := str_ne (fun e => hok ⟨hE, e⟩)
        have K1 := Lib.hid hE
        clear hok hE
        go_wp2_with fail
        refine (rquote _ _ (by unfold maxLen; omega)).mono ?_
        rintro e w' ⟨rfl, hb'⟩
        rw [K1.out]
        go_wp2_with fail
        go_ret2
        exact ⟨tup (unqS_none H.out).symm (unqE_none H.out).symm, hb.trans (hb'.mono hb.size)⟩
theorem runquote (s : ByteArray) (w : World) (hs : s.size ≤ 1000000) : RUnq s w := by
  by_cases h0 : 1 ≤ s.size
  · cases h34 : ((s[0].toNat : Int) == 34)
    · have hne : (⟨#[34, 34]⟩ : ByteArray) ≠ s := fun e => by subst e; cases h34
      by_cases h : ((s[0].toNat : Int) == 120) = true ∧ 3 ≤ s.size ∧ s.size % 2 = 1 ∧ s.size ≤ 1281
      · exact runq_R2 s w h.2.1 h.2.2.2 h34 h.1 h.2.2.1
      · have H : unqO s.data.toList = none := unqO_none fun u hu => by
          have := quotes_B h0 h34 hu
          exact h ⟨this.1, this.2.1, this.2.2.1, this.2.2.2.1⟩
        refine runq_R3 s w hs hne H ?_
        by_cases k1 : s.size < 2
        · exact .inl k1
        · refine .inr ⟨h0, h34, ?_⟩
          by_cases k2 : s.size = 2
          · exact .inl k2
          · cases k3 : ((s[0].toNat : Int) == 120)
            · exact .inr (.inl ⟨by omega, rfl⟩)
            · refine .inr (.inr ⟨by omega, rfl, ?_⟩)
              by_cases k4 : s.size % 2 = 0
              · exact .inl k4
              · exact .inr ⟨by omega, by
                  rcases Nat.lt_or_ge 1281 s.size with k | k
                  · exact k
                  · exact absurd ⟨k3, by omega, by omega, k⟩ h⟩
    · by_cases k : 2 ≤ s.size
      · by_cases hok : quoteE (s.extract 1 (s.size - 1)) = 0 ∧ quoteS (s.extract 1 (s.size - 1)) = s
        · exact runq_A1 s w hs k h34 hok
        · rcases quoteE_cases (s.extract 1 (s.size - 1)) with k1 | k1
          · exact runq_A2 s w hs k h34 k1 (fun e => hok ⟨k1, e⟩)
          · exact runq_A3 s w hs k h34 k1
      · have hne : (⟨#[34, 34]⟩ : ByteArray) ≠ s := fun e => by subst e; exact k (by decide)
        refine runq_R3 s w hs hne (unqO_none fun u hu => ?_) (.inl (by omega))
        have h1 := hu.1
        have hl : s.data.toList.length = s.size := Array.length_toList
        rw [← h1] at hl
        unfold quoteL at hl
        cases hs : safeB u <;> simp only [hs] at hl
        · have hne : u ≠ [] := fun e => by subst e; cases hs
          have hpos : 0 < u.length := List.length_pos_iff.2 hne
          simp only [Bool.false_eq_true, if_false, List.length_cons, hexL_length] at hl
          omega
        · simp only [if_true, List.length_cons, List.length_append, List.length_nil] at hl
          omega
  · have hz : s.data.toList = [] := List.eq_nil_of_length_eq_zero (Array.length_toList.trans (by show s.size = 0; omega))
    have hne : (⟨#[34, 34]⟩ : ByteArray) ≠ s := fun e => by subst e; exact h0 (by decide)
    exact runq_R3 s w hs hne (by rw [hz]; rfl) (.inl (by omega))
end Go.Proofs.YtokkbboahajbhaaDoor
/- The walk of Parse of the reference: the call that Format writes as s, or the error. -/
namespace Go.Proofs.YtokkbboahajbhaaDoor
open Go.RowKit
/-- The call so far in block gc, the row of the table in block gr. -/
structure PStR (w wr : World) (gc gr : Nat) (rcs : Array Value) (z : Int) (a : Nat → Int) (vp va : Value) (ps gs : List ByteArray) : Prop where
  st : PSt w wr gc z a vp va ps gs
  row : Blk wr gr 66 rcs
  hne : gr ≠ gc
  np : vp.ownBlock ≠ some gr
  na : va.ownBlock ≠ some gr
section
variable {w wr w' : World} {gc gr : Nat} {rcs : Array Value} {z : Int} {a : Nat → Int} {vp va : Value} {ps gs : List ByteArray}
theorem PStR.below (h : PStR w wr gc gr rcs z a vp va ps gs) (hb : Below wr.heap.size wr w') : PStR w w' gc gr rcs z a vp va ps gs :=
  ⟨h.st.below hb, h.row.below hb, h.hne, h.np, h.na⟩
theorem PStR.setA (h : PStR w wr gc gr rcs z a vp va ps gs) (k : Nat) (hk : k < 4) (v : Int) : PStR w (wr.setCell ⟨gc, 1 + k, none⟩ (.int .i64 v)) gc gr rcs z (putA a k v) vp va ps gs :=
  ⟨h.st.setA k hk v, h.row.put_other (p := ⟨gc, 1 + k, none⟩) _ h.hne, h.hne, h.np, h.na⟩
theorem PStR.addP (h : PStR w wr gc gr rcs z a vp va ps gs) {o : Obj} {v : Value} {w4 : World} {L : List ByteArray} (own : OwnS w4 (gc + 1) v L) (hg : (wr.alloc o).grownBy w4 vp.ownBlock) (hat : v.ownBlock = vp.ownBlock ∨ v.ownBlock = some (wr.alloc o).heap.size) : PStR w (w4.setCell ⟨gc, 5, none⟩ v) gc gr rcs z a v va L gs :=
  ⟨h.st.addP own hg hat, ((h.row.alloc o).grown hg h.np).put_other (p := ⟨gc, 5, none⟩) _ h.hne, h.hne, fun e => by
    rcases hat with k | k
    · exact h.np (k.symm.trans e)
    · rw [e] at k; injection k with k
      have := h.row.lt
      simp at k; omega, h.na⟩
theorem PStR.addG (h : PStR w wr gc gr rcs z a vp va ps gs) {o : Obj} {v : Value} {w4 : World} {L : List ByteArray} (own : OwnS w4 (gc + 1) v L) (hg : (wr.alloc o).grownBy w4 va.ownBlock) (hat : v.ownBlock = va.ownBlock ∨ v.ownBlock = some (wr.alloc o).heap.size) : PStR w (w4.setCell ⟨gc, 6, none⟩ v) gc gr rcs z a vp v ps L :=
  ⟨h.st.addG own hg hat, ((h.row.alloc o).grown hg h.na).put_other (p := ⟨gc, 6, none⟩) _ h.hne, h.hne, h.np, fun e => by
    rcases hat with k | k
    · exact h.na (k.symm.trans e)
    · rw [e] at k; injection k with k
      have := h.row.lt
      simp at k; omega⟩
end
theorem numC_name {x : ByteArray} : (rowI (numC x)).name.size = 0 → numC x < 0 := by
  intro h
  have hr := numC_range x
  rcases Int.lt_or_le (numC x) 0 with h0 | h0
  · exact h0
  · have H : ∀ k : Fin 22, (rowC k).name.size ≠ 0 := by decide +kernel
    rw [rowI_toNat ⟨h0, hr.2⟩] at h
    exact absurd h (H ⟨(numC x).toNat, by omega⟩)
/-- The words read so far: k of R, the first m of them numbers, the next p paths. -/
structure RdSt (R : List ByteArray) (m p k : Nat) (a : Nat → Int) (ps gs : List ByteArray) : Prop where
  num : NumSt R m (min k m) a
  txt : TxtSt (R.drop m) p (k - m) ps gs
theorem RdSt.start (R : List ByteArray) (m p : Nat) : RdSt R m p 0 (fun _ => 0) [] [] :=
  ⟨by rw [Nat.zero_min]; exact NumSt.start R m, by rw [Nat.zero_sub]; exact TxtSt.start _ _⟩
theorem RdSt.nextN {R : List ByteArray} {m p k : Nat} {a : Nat → Int} {ps gs : List ByteArray} (h : RdSt R m p k a ps gs) (hk : k < R.length) (hm : k < m) : RdSt R m p (k + 1) (putA a k (rdN R[k])) ps gs :=
  ⟨by
    have := h.num
    rw [Nat.min_eq_left (by omega)] at this
    rw [Nat.min_eq_left (by omega)]
    exact this.next hk (numW_rd _) (rdN_bd _), by
    have := h.txt
    rw [Nat.sub_eq_zero_of_le (by omega)] at this
    rw [Nat.sub_eq_zero_of_le (by omega)]
    exact this⟩
theorem RdSt.nextP {R : List ByteArray} {m p k : Nat} {a : Nat → Int} {ps gs : List ByteArray} (h : RdSt R m p k a ps gs) (hk : k < R.length) (hm : m ≤ k) (hp : k < m + p) : RdSt R m p (k + 1) a (ps ++ [unqS R[k]]) gs :=
  ⟨by
    have := h.num
    rw [Nat.min_eq_right (by omega)] at this
    rw [Nat.min_eq_right (by omega)]
    exact this, by
    have := h.txt.nextP (by rw [List.length_drop]; omega) (by omega)
    rw [show k + 1 - m = k - m + 1 by omega]
    rw [List.getElem_drop] at this
    simpa [show m + (k - m) = k by omega] using this⟩
theorem RdSt.nextG {R : List ByteArray} {m p k : Nat} {a : Nat → Int} {ps gs : List ByteArray} (h : RdSt R m p k a ps gs) (hk : k < R.length) (hp : m + p ≤ k) : RdSt R m p (k + 1) a ps (gs ++ [unqS R[k]]) :=
  ⟨by
    have := h.num
    rw [Nat.min_eq_right (by omega)] at this
    rw [Nat.min_eq_right (by omega)]
    exact this, by
    have := h.txt.nextG (by rw [List.length_drop]; omega) (by omega)
    rw [show k + 1 - m = k - m + 1 by omega]
    rw [List.getElem_drop] at this
    simpa [show m + (k - m) = k by omega] using this⟩
theorem RdSt.done {x : ByteArray} {R : List ByteArray} {z : Int} {a : Nat → Int} {ps gs : List ByteArray} {m p k : Nat} (h : RdSt R m p k a ps gs) (hz : z = numC x) (hm : (rowI z).nums = m) (hp : (rowI z).pths = p) (hk : R.length ≤ k) (hmk : m ≤ k) : FromW x R z a ps gs := by
  subst hm hp
  refine FromW.made hz ?_ (k := k - (rowI z).nums) (by rw [List.length_drop]; omega) h.txt
  have := h.num
  rwa [Nat.min_eq_right hmk] at this
theorem RdSt.sizes {R : List ByteArray} {m p k : Nat} {a : Nat → Int} {ps gs : List ByteArray} (h : RdSt R m p k a ps gs) : ps.length ≤ R.length ∧ gs.length ≤ R.length := by
  have := h.txt.sizes
  rw [List.length_drop] at this
  omega
attribute [local irreducible] rowI rowC numC numS unqS unqE callS callE rdN
set_option maxRecDepth 100000 in
set_option maxHeartbeats 16000000 in
theorem rparse10 (s : ByteArray) (hs : s.size ≤ 100000) (w : World) :
    Calls Tryd.prog 42 #[.string s] w (CParsePost s w) := by
  have hb0 : Below w.heap.size w (w.alloc (.cells (cellsCall 0 (fun _ => 0) (.slice none 0 0) (.slice none 0 0)) 25)) := (Below.refl _ _).alloc (Nat.le_refl _) _
  have R0 := Blk.new w (cellsCall 0 (fun _ => 0) (.slice none 0 0) (.slice none 0 0)) 25
  go_enter Tryd.func42, Tryd.ntmps42
  go_wp2_with fail
  refine (rcut s 32 32 rfl _ hs).mono ?_
  rintro e w1 ⟨v, L, rfl, hw, ho, hb1⟩
  have R1 := R0.below hb1
  have b1 := below_then hb0 hb1
  have hlt1 := R1.lt
  obtain ⟨Aw, cw, e1, hS⟩ := ho.strs
  subst e1
  clear R0 hb0 hb1 ho
  obtain ⟨x, R, rfl⟩ : ∃ x R, L = x :: R := by
    cases L with
    | nil => exact absurd rfl hw.ne
    | cons x R => exact ⟨x, R, rfl⟩
  have HW := Lib.hid hw
  have hsz := hw.size
  have hlR : R.length ≤ 100000 := by have := hsz.1; simp at this; omega
  have HSZ := Lib.hid (show ∀ y ∈ R, y.size ≤ 100000 from fun y hy => by have := hsz.2 y (List.mem_cons_of_mem _ hy); omega)
  have hn : (x :: R).length = R.length + 1 := rfl
  generalize (x :: R).length = n at *
  have hn1 : n ≤ R.length + 1 := by omega
  have hn2 : R.length + 1 ≤ n := by omega
  clear hn
  obtain ⟨ad, e, hadb, hx0⟩ := hS 0 (by simp)
  subst e
  simp only [List.getElem_cons_zero, Addr.add, if_true] at hx0
  have HS := Lib.hid (show ∀ k (h : k < R.length), w1.cell? (ad.add (k + 1)) = some (.string R[k]) from fun k h => by
    obtain ⟨_, e, _, hh⟩ := hS (k + 1) (by simp; omega)
    cases e
    simpa using hh)
  clear hw hsz hS
  go_wp2_with fail
  refine (rnumber10 x _).mono ?_
  rintro e w2 ⟨rfl, hb2⟩
  have hlt2 : w1.heap.size ≤ w2.heap.size := hb2.size
  have st0 := PSt.new hb2 (numC x)
  have HG := Lib.hid (rget (numC x))
  have hsm := rowI_small (numC x)
  have HNM := Lib.hid (numC_name (x := x))
  have hzr := numC_range x
  generalize hz : numC x = z at *
  have HZ := Lib.hid hz
  clear hz hx0
  have q0 := st0.blk.cell 0
  go_wp2_with fail
  refine (HG.out _).mono ?_
  rintro e w3 ⟨rfl, hb3⟩
  unfold CRow.val
  have st1 := st0.below hb3
  have hlt3 := st1.lt
  clear st0 q0 hb3 HG hb2
  generalize hr : rowI z = r at *
  have HROW := Lib.hid hr
  clear hr
  obtain ⟨nm, m, p, l, u⟩ := r
  obtain ⟨s1, s2, s3, s4, s5⟩ := hsm
  simp only at s1 s2 s3 s4 s5
  have st2 : PStR w1 (w3.alloc (.cells #[.string nm, .int .i64 (m : Int), .int .i64 (p : Int), .int .i64 (l : Int), .int .i64 (u : Int)] 66)) w2.heap.size w3.heap.size #[.string nm, .int .i64 (m : Int), .int .i64 (p : Int), .int .i64 (l : Int), .int .i64 (u : Int)] z (fun _ => 0) (.slice none 0 0) (.slice none 0 0) [] [] :=
    ⟨st1.alloc _, Blk.new w3 _ _, by omega, (fun e => by cases e), (fun e => by cases e)⟩
  clear st1
  have R2 := R1.below st2.st.bel
  have b2 := below_then b1 st2.st.bel
  by_cases hnm : nm.size = 0
  · have e0 : nm.toList.isEmpty = true := by rw [empty_list hnm]; rfl
    have e1 := empty_list hnm
    have HCI := Lib.hid (CIs.no (no_shape HW.out (.inl (by rw [HZ.out]; exact HNM.out hnm))) (a := fun _ => 0) (fun _ _ => rfl))
    clear hnm
    have r0 := R2.cell 0
    have f0 := R2.free 0
    have r1 := R2.cell 1
    have f1 := R2.free 1
    have r2 := R2.cell 2
    have f2 := R2.free 2
    have r3 := R2.cell 3
    have f3 := R2.free 3
    have r4 := R2.cell 4
    have f4 := R2.free 4
    have r5 := R2.cell 5
    have f5 := R2.free 5
    have r6 := R2.cell 6
    have f6 := R2.free 6
    have t0 := st2.row.cell 0
    have t1 := st2.row.cell 1
    have t2 := st2.row.cell 2
    have t3 := st2.row.cell 3
    have t4 := st2.row.cell 4
    go_wp2_with fail
    refine bodyPost_ret (call_ret2 (fn := Tryd.f42) rfl _ _ w.heap.size _ rfl (blk7 R2 0 (fun _ => 0) (.slice none 0 0) (.slice none 0 0)) rfl) rfl ?_
    exact ⟨_, _, _, _, _, _, 103, rfl, HCI.out, OwnS.nil _ _, OwnS.nil _ _, below7 b2 (Nat.le_refl _) 0 (fun _ => 0) _ _⟩
  have e0 : nm.toList.isEmpty = false := by simpa using nonempty_list hnm
  have e1 := nonempty_list hnm
  clear hnm HNM
  by_cases hlo : R.length < m + p
  ·
    have HCI := Lib.hid (CIs.no (no_shape HW.out (.inr (.inl (by rw [HZ.out, HROW.out]; show R.length < m + p + l; omega)))) (a := fun _ => 0) (fun _ _ => rfl))
    have r0 := R2.cell 0
    have f0 := R2.free 0
    have r1 := R2.cell 1
    have f1 := R2.free 1
    have r2 := R2.cell 2
    have f2 := R2.free 2
    have r3 := R2.cell 3
    have f3 := R2.free 3
    have r4 := R2.cell 4
    have f4 := R2.free 4
    have r5 := R2.cell 5
    have f5 := R2.free 5
    have r6 := R2.cell 6
    have f6 := R2.free 6
    have t0 := st2.row.cell 0
    have t1 := st2.row.cell 1
    have t2 := st2.row.cell 2
    have t3 := st2.row.cell 3
    have t4 := st2.row.cell 4
    go_wp2_with fail
    refine bodyPost_ret (call_ret2 (fn := Tryd.f42) rfl _ _ w.heap.size _ rfl (blk7 R2 0 (fun _ => 0) (.slice none 0 0) (.slice none 0 0)) rfl) rfl ?_
    exact ⟨_, _, _, _, _, _, 103, rfl, HCI.out, OwnS.nil _ _, OwnS.nil _ _, below7 b2 (Nat.le_refl _) 0 (fun _ => 0) _ _⟩
  by_cases hhi : m + p + u < R.length
  ·
    have HCI := Lib.hid (CIs.no (no_shape HW.out (.inr (.inr (by rw [HZ.out, HROW.out]; exact hhi)))) (a := fun _ => 0) (fun _ _ => rfl))
    have r0 := R2.cell 0
    have f0 := R2.free 0
    have r1 := R2.cell 1
    have f1 := R2.free 1
    have r2 := R2.cell 2
    have f2 := R2.free 2
    have r3 := R2.cell 3
    have f3 := R2.free 3
    have r4 := R2.cell 4
    have f4 := R2.free 4
    have r5 := R2.cell 5
    have f5 := R2.free 5
    have r6 := R2.cell 6
    have f6 := R2.free 6
    have t0 := st2.row.cell 0
    have t1 := st2.row.cell 1
    have t2 := st2.row.cell 2
    have t3 := st2.row.cell 3
    have t4 := st2.row.cell 4
    go_wp2_with fail
    refine bodyPost_ret (call_ret2 (fn := Tryd.f42) rfl _ _ w.heap.size _ rfl (blk7 R2 0 (fun _ => 0) (.slice none 0 0) (.slice none 0 0)) rfl) rfl ?_
    exact ⟨_, _, _, _, _, _, 103, rfl, HCI.out, OwnS.nil _ _, OwnS.nil _ _, below7 b2 (Nat.le_refl _) 0 (fun _ => 0) _ _⟩
  have HDN := Lib.hid (show ∀ a ps gs k, RdSt R m p k a ps gs → R.length ≤ k → FromW x R z a ps gs from fun a ps gs k h1 h2 => h1.done HZ.out.symm (by rw [HROW.out]) (by rw [HROW.out]) h2 (by omega))
  have hrd := RdSt.start R m p
  have t0 := st2.row.cell 0
  have t1 := st2.row.cell 1
  have t2 := st2.row.cell 2
  have t3 := st2.row.cell 3
  have t4 := st2.row.cell 4
  go_wp2_with fail
  clear t0 t1 t2 t3 t4
  go_loopw [7] (fun i wr => ∃ (j k : Nat) (a : Nat → Int) (vp va : Value) (ps gs : List ByteArray), j = k + 1 ∧ k ≤ R.length ∧ i = .int .i64 (j : Int) ∧ RdSt R m p k a ps gs ∧ PStR w1 wr w2.heap.size w3.heap.size #[.string nm, .int .i64 (m : Int), .int .i64 (p : Int), .int .i64 (l : Int), .int .i64 (u : Int)] z a vp va ps gs) (fun i _ => n - (intOf i).toNat)
  case atStart => exact ⟨1, 0, _, _, _, _, _, rfl, Nat.zero_le _, rfl, hrd, st2⟩
  case round =>
    obtain ⟨i, k, a, vp, va, ps, gs, hik, hk, rfl, hrd, hst⟩ := hrel
    clear st2 R2 b2
    by_cases hkR : k < R.length
    · have hcell : wr.cell? (ad.add i) = some (.string R[k]) := by
        rw [hik]; exact (hst.st.bel.cell (p := ad.add (k + 1)) (by rw [strs_block]; exact hadb)).trans (HS.out k hkR)
      have hyz := HSZ.out _ (List.getElem_mem hkR)
      have hln := hrd.sizes
      obtain ⟨hln1, hln2⟩ := hln
      have t1 : wr.cell? ⟨w3.heap.size, 1, none⟩ = some (.int .i64 (m : Int)) := hst.row.cell 1
      have hi1 : i ≤ k + 1 := by omega
      have hi2 : k + 1 ≤ i := by omega
      clear hik
      by_cases hkm : k < m
      · have HRD := Lib.hid (hrd.nextN hkR hkm)
        have HRR := Lib.hid (fun W => rread R[k] W (by omega))
        clear hrd
        generalize R[k] = y at *
        go_wp2_with fail
        refine (HRR.out _).mono ?_
        rintro e w4 ⟨rfl, rfl⟩
        have hcs : (i = 1 ∧ k = 0) ∨ (i = 2 ∧ k = 1) := by omega
        rcases hcs with ⟨rfl, rfl⟩ | ⟨rfl, rfl⟩
        · have q := hst.st.blk.cell 1
          have f := hst.st.blk.free 1
          go_wp2_with fail
          go_roundw
          case rel => exact ⟨2, 1, _, _, _, _, _, rfl, by omega, by go_num, HRD.out, hst.setA 0 (by omega) _⟩
          case measure => simp [intOf]; omega
        · have q := hst.st.blk.cell 2
          have f := hst.st.blk.free 2
          go_wp2_with fail
          go_roundw
          case rel => exact ⟨3, 2, _, _, _, _, _, rfl, by omega, by go_num, HRD.out, hst.setA 1 (by omega) _⟩
          case measure => simp [intOf]; omega
      · have HU := Lib.hid (fun W => runquote R[k] W (by omega))
        by_cases hkp : k < m + p
        · have HRD := Lib.hid (hrd.nextP hkR (by omega) hkp)
          clear hrd
          generalize R[k] = y at *
          go_wp2_with fail
          refine (HU.out _).mono ?_
          rintro e w4 ⟨rfl, hb4⟩
          have st4 := hst.below hb4
          clear hst hb4 HU hcell t1
          generalize unqS y = t at *
          have t1 : w4.cell? ⟨w3.heap.size, 1, none⟩ = some (.int .i64 (m : Int)) := st4.row.cell 1
          have t2 : w4.cell? ⟨w3.heap.size, 2, none⟩ = some (.int .i64 (p : Int)) := st4.row.cell 2
          have q5 : w4.cell? ⟨w2.heap.size, 5, none⟩ = some vp := st4.st.blk.cell 5
          have hlt4 : w2.heap.size < w4.heap.size := st4.st.lt
          go_wp2_with (at_builtin; refine wpList_append_strs rfl (.tmp 89) (.tmp 91) rfl (w2.heap.size + 1) vp ps rfl (st4.st.op.alloc _) (w4.heap.size + 1) (some ⟨w4.heap.size, 0, none⟩) 1 1 [t] rfl rfl (one_new w4 _ 9) (by simp; omega) (by simp; omega) ?_; intro v5 w5 own5 hg5 hat5; obtain ⟨g5, c5, hv5⟩ := Joins.ownsRow_form own5.out (by simp); subst hv5; have st5 := st4.addP own5 hg5 hat5; have q5' : w5.cell? ⟨w2.heap.size, 5, none⟩ = some vp := (((st4.st.blk.alloc _).grown hg5 (fun e => by have := st4.st.op.ge _ e; omega)).cell 5); have f5' := ((st4.st.blk.alloc (.cells #[.string t] 9)).grown hg5 (fun e => by have := st4.st.op.ge _ e; omega)).free 5)
          clear q5 q5' f5' own5 hg5 hat5 st4
          go_wp2_with fail
          go_roundw
          case rel => exact ⟨i + 1, k + 1, _, _, _, _, _, by omega, by omega, by go_num, HRD.out, (by have k5 := st5; rw [List.length_append] at k5; exact k5)⟩
          case measure => simp [intOf]; omega
        · have HRD := Lib.hid (hrd.nextG hkR (by omega))
          clear hrd
          generalize R[k] = y at *
          go_wp2_with fail
          refine (HU.out _).mono ?_
          rintro e w4 ⟨rfl, hb4⟩
          have st4 := hst.below hb4
          clear hst hb4 HU hcell t1
          generalize unqS y = t at *
          have t1 : w4.cell? ⟨w3.heap.size, 1, none⟩ = some (.int .i64 (m : Int)) := st4.row.cell 1
          have t2 : w4.cell? ⟨w3.heap.size, 2, none⟩ = some (.int .i64 (p : Int)) := st4.row.cell 2
          have q6 : w4.cell? ⟨w2.heap.size, 6, none⟩ = some va := st4.st.blk.cell 6
          have hlt4 : w2.heap.size < w4.heap.size := st4.st.lt
          go_wp2_with (at_builtin; refine wpList_append_strs rfl (.tmp 95) (.tmp 97) rfl (w2.heap.size + 1) va gs rfl (st4.st.og.alloc _) (w4.heap.size + 1) (some ⟨w4.heap.size, 0, none⟩) 1 1 [t] rfl rfl (one_new w4 _ 9) (by simp; omega) (by simp; omega) ?_; intro v5 w5 own5 hg5 hat5; obtain ⟨g5, c5, hv5⟩ := Joins.ownsRow_form own5.out (by simp); subst hv5; have st5 := st4.addG own5 hg5 hat5; have q6' : w5.cell? ⟨w2.heap.size, 6, none⟩ = some va := (((st4.st.blk.alloc _).grown hg5 (fun e => by have := st4.st.og.ge _ e; omega)).cell 6); have f6' := ((st4.st.blk.alloc (.cells #[.string t] 9)).grown hg5 (fun e => by have := st4.st.og.ge _ e; omega)).free 6)
          clear q6 q6' f6' own5 hg5 hat5 st4
          go_wp2_with fail
          go_roundw
          case rel => exact ⟨i + 1, k + 1, _, _, _, _, _, by omega, by omega, by go_num, HRD.out, (by have k5 := st5; rw [List.length_append] at k5; exact k5)⟩
          case measure => simp [intOf]; omega
    · have hi1 : i ≤ k + 1 := by omega
      have hi2 : k + 1 ≤ i := by omega
      clear hik
      have HF := Lib.hid (HDN.out a ps gs k hrd (by omega))
      have HI := Lib.hid hrd.num.rng
      have hsz := HF.out.sizes (by omega)
      obtain ⟨z1, z2, z3, z4⟩ := hsz
      obtain ⟨P, cp, e3, hP⟩ := hst.st.op.strs
      obtain ⟨A, ca, e4, hA⟩ := hst.st.og.strs
      subst e3 e4
      have HV := Lib.hid (rformat10 z a P cp A ca ps gs wr wr.heap.size (Nat.le_refl _) hP hA (by omega) (by omega) (fun s hs => by have := z3 s hs; unfold maxLen; omega) (fun s hs => by have := z4 s hs; unfold maxLen; omega) (fun j hj => HI.out j hj))
      clear hrd z3 z4 hP hA
      have q0 := hst.st.blk.cell 0
      have q1 := hst.st.blk.cell 1
      have q2 := hst.st.blk.cell 2
      have q3 := hst.st.blk.cell 3
      have q4 := hst.st.blk.cell 4
      have q5 := hst.st.blk.cell 5
      have q6 := hst.st.blk.cell 6
      go_wp2_with fail
      refine HV.out.mono ?_
      rintro e w4 ⟨rfl, hb4⟩
      have st4 := hst.below hb4
      have R4 := R1.below st4.st.bel
      have b4 := below_then b1 st4.st.bel
      clear hst hb4 HV q0 q1 q2 q3 q4 q5 q6
      have q0 := st4.st.blk.cell 0
      have q1 := st4.st.blk.cell 1
      have q2 := st4.st.blk.cell 2
      have q3 := st4.st.blk.cell 3
      have q4 := st4.st.blk.cell 4
      have q5 := st4.st.blk.cell 5
      have q6 := st4.st.blk.cell 6
      have r0 := R4.cell 0
      have f0 := R4.free 0
      have r1 := R4.cell 1
      have f1 := R4.free 1
      have r2 := R4.cell 2
      have f2 := R4.free 2
      have r3 := R4.cell 3
      have f3 := R4.free 3
      have r4 := R4.cell 4
      have f4 := R4.free 4
      have r5 := R4.cell 5
      have f5 := R4.free 5
      have r6 := R4.cell 6
      have f6 := R4.free 6
      by_cases h0 : callE z a ps gs = 0
      · by_cases h1 : callS z a ps gs = s
        · have HCI := Lib.hid (show CIs s z a ps gs 0 from .inl ⟨rfl, h0, h1, HI.out⟩)
          have t1 := str_eq h1
          rw [h0]
          clear h0 h1
          go_wp2_with fail
          refine bodyPost_ret (call_ret2 (fn := Tryd.f42) rfl _ _ w.heap.size _ rfl (blk7 R4 z a (.slice P ps.length cp) (.slice A gs.length ca)) rfl) rfl ?_
          exact ⟨_, _, _, _, _, _, 0, rfl, HCI.out, (own7 st4.st.op (by omega) z a _ _).low (by omega), (own7 st4.st.og (by omega) z a _ _).low (by omega), below7 b4 (Nat.le_refl _) z a _ _⟩
        · have HCI := Lib.hid (CIs.no (CIs.tested HF.out HW.out (fun h => h1 h.2)) (a := fun _ => 0) (fun _ _ => rfl))
          have t1 := str_ne h1
          rw [h0]
          clear h0 h1
          go_wp2_with fail
          refine bodyPost_ret (call_ret2 (fn := Tryd.f42) rfl _ _ w.heap.size _ rfl (blk7 R4 0 (fun _ => 0) (.slice none 0 0) (.slice none 0 0)) rfl) rfl ?_
          exact ⟨_, _, _, _, _, _, 103, rfl, HCI.out, OwnS.nil _ _, OwnS.nil _ _, below7 b4 (Nat.le_refl _) 0 (fun _ => 0) _ _⟩
      · have HCI := Lib.hid (CIs.no (CIs.tested HF.out HW.out (fun h => h0 h.1)) (a := fun _ => 0) (fun _ _ => rfl))
        have t0 : (callE z a ps gs != 0) = true := by simpa using h0
        clear h0
        go_wp2_with fail
        refine bodyPost_ret (call_ret2 (fn := Tryd.f42) rfl _ _ w.heap.size _ rfl (blk7 R4 0 (fun _ => 0) (.slice none 0 0) (.slice none 0 0)) rfl) rfl ?_
        exact ⟨_, _, _, _, _, _, 103, rfl, HCI.out, OwnS.nil _ _, OwnS.nil _ _, below7 b4 (Nat.le_refl _) 0 (fun _ => 0) _ _⟩
end Go.Proofs.YtokkbboahajbhaaDoor
/- The source of numbers of package kauditmake: New and N. What is said of N: a number from 0 to n - 1, and the source stays one. -/
namespace Go.Proofs.YtokkbboahajbhaaDoor
open Go.RowKit
/-- Block g holds a source whose list lies below base; it has handed out at most b numbers. -/
def SrcOk (w : World) (base g : Nat) (b : Int) : Prop := base ≤ g ∧ ∃ (A : Option Addr) (n c : Nat) (a : Int), w.heap[g]? = some (.cells #[.slice A n c, .int .i64 a] 54 (0, 0)) ∧ 0 ≤ a ∧ a ≤ b ∧ (n : Int) ≤ 9223372036854775807 ∧
  ∀ k, k < n → ∃ (ad : Addr) (z : Int), A = some ad ∧ ad.block < base ∧ w.cell? (ad.add k) = some (.int .i64 z) ∧ -9223372036854775808 ≤ z ∧ z ≤ 9223372036854775807
theorem src_lt {w : World} {base g : Nat} {b : Int} (h : SrcOk w base g b) : g < w.heap.size := by
  obtain ⟨_, A, n, c, a, hg, _⟩ := h
  exact (Array.getElem?_eq_some_iff.1 hg).1
theorem SrcOk.more {w : World} {base g : Nat} {b b' : Int} (h : SrcOk w base g b) (hb : b ≤ b') : SrcOk w base g b' := by
  obtain ⟨h0, A, n, c, a, hg, ha, hab, hn, hl⟩ := h
  exact ⟨h0, A, n, c, a, hg, ha, by omega, hn, hl⟩
theorem block_add (a : Addr) (n : Nat) : (a.add n).block = a.block := by unfold Addr.add; split <;> rfl
/-- The source is kept where its block and the blocks below base are. -/
theorem SrcOk.keep {w w' : World} {base g : Nat} {b : Int} (h : SrcOk w base g b) (hg' : w'.heap[g]? = w.heap[g]?) (hk : ∀ i, i < base → w'.heap[i]? = w.heap[i]?) : SrcOk w' base g b := by
  obtain ⟨h0, A, n, c, a, hg, ha, hab, hn, hl⟩ := h
  refine ⟨h0, A, n, c, a, hg'.trans hg, ha, hab, hn, fun k hk' => ?_⟩
  obtain ⟨ad, z, e, hb, hc, hz⟩ := hl k hk'
  exact ⟨ad, z, e, hb, (World.cell?_of_block (by rw [block_add]; exact hk _ hb)).trans hc, hz⟩
theorem SrcOk.below {w w' : World} {base g : Nat} {b : Int} (h : SrcOk w base g b) (hb : Below w.heap.size w w') : SrcOk w' base g b :=
  h.keep (hb.block g (src_lt h)) fun i hi => hb.block i (by have := src_lt h; have := h.1; omega)
theorem SrcOk.grown {w w' : World} {base g : Nat} {b : Int} (h : SrcOk w base g b) {row : Option Nat} (hg : w.grownBy w' row) (hr : ∀ r, row = some r → base ≤ r ∧ r ≠ g) : SrcOk w' base g b :=
  h.keep (hg.block g (src_lt h) (fun e => (hr g e.symm).2 rfl)) fun i hi => hg.block i (by have := src_lt h; have := h.1; omega) (fun e => by have := (hr i e.symm).1; omega)
theorem SrcOk.alloc {w : World} {base g : Nat} {b : Int} (h : SrcOk w base g b) (o : Obj) : SrcOk (w.alloc o) base g b := h.below ((Below.refl _ _).alloc (Nat.le_refl _) o)
theorem SrcOk.drewN {w : World} {base g : Nat} {b : Int} (h : SrcOk w base g b) (n : Nat) : SrcOk (w.drewN n) base g b := h
theorem SrcOk.drew {w : World} {base g : Nat} {b : Int} (h : SrcOk w base g b) : SrcOk w.drew base g b := h
theorem SrcOk.setCell {w : World} {base g : Nat} {b : Int} (h : SrcOk w base g b) {p : Addr} (hp : base ≤ p.block) (hne : p.block ≠ g) (u : Value) : SrcOk (w.setCell p u) base g b :=
  h.keep (Below.heap_setCell w p u g (Ne.symm hne)) fun i hi => Below.heap_setCell w p u i (by omega)
/-- Only block g, and what is new, has changed: the steps. -/
theorem only_drewN {a w : World} {row : Option Nat} (h : a.grownBy w row) (n : Nat) : a.grownBy (w.drewN n) row := ⟨h.os, h.tape, h.output, h.size, h.block⟩
theorem only_alloc {a w : World} {row : Option Nat} (h : a.grownBy w row) (o : Obj) : a.grownBy (w.alloc o) row :=
  ⟨h.os, h.tape, h.output, Nat.le_trans h.size (by simp), fun i hi hne => (Below.heap_alloc w o i (Nat.lt_of_lt_of_le hi h.size)).trans (h.block i hi hne)⟩
theorem only_setCell {a w : World} {g : Nat} (h : a.grownBy w (some g)) {p : Addr} (hp : p.block = g ∨ a.heap.size ≤ p.block) (u : Value) : a.grownBy (w.setCell p u) (some g) :=
  ⟨h.os, h.tape, h.output, by simpa [World.setCell] using h.size, fun i hi hne => (Below.heap_setCell w p u i (fun e => by
    rcases hp with hp | hp
    · exact hne (by rw [e, hp])
    · omega)).trans (h.block i hi hne)⟩
theorem only_below {a w w' : World} {row : Option Nat} (h : a.grownBy w row) (hb : Below w.heap.size w w') : a.grownBy w' row :=
  ⟨hb.os.trans h.os, hb.tape.trans h.tape, hb.output.trans h.output, Nat.le_trans h.size hb.size, fun i hi hne => (hb.block i (Nat.lt_of_lt_of_le hi h.size)).trans (h.block i hi hne)⟩
theorem below_only {B : Nat} {a w w' : World} {g : Nat} (h : Below B a w) (hg : w.grownBy w' (some g)) (hB : B ≤ w.heap.size) (hBg : B ≤ g) : Below B a w' :=
  h.grown hg hB fun k hk => by injection hk with hk; omega
def NPost (w : World) (base g : Nat) (b n : Int) (e : Ending) (w' : World) : Prop := ∃ x : Int, e = .returned (.int .i64 x) ∧ 0 ≤ x ∧ x < n ∧ SrcOk w' base g (b + 1) ∧ w.grownBy w' (some g)
theorem src_set {w : World} {base g : Nat} {b : Int} (h0 : base ≤ g) {A : Option Addr} {n c : Nat} {a : Int} (hg : w.heap[g]? = some (.cells #[.slice A n c, .int .i64 a] 54 (0, 0))) (ha : 0 ≤ a) (hab : a ≤ b) (hn : (n : Int) ≤ 9223372036854775807)
    (hl : ∀ k, k < n → ∃ (ad : Addr) (z : Int), A = some ad ∧ ad.block < base ∧ w.cell? (ad.add k) = some (.int .i64 z) ∧ -9223372036854775808 ≤ z ∧ z ≤ 9223372036854775807) :
    SrcOk (w.setCell ⟨g, 1, none⟩ (.int .i64 (a + 1))) base g (b + 1) ∧ w.grownBy (w.setCell ⟨g, 1, none⟩ (.int .i64 (a + 1))) (some g) := by
  refine ⟨⟨h0, A, n, c, a + 1, heap_setCell_same w g 1 #[.slice A n c, .int .i64 a] _ (.int .i64 (a + 1)) hg, by omega, by omega, hn, fun k hk => ?_⟩, only_setCell (World.grownBy.refl w _) (.inl rfl) _⟩
  obtain ⟨ad, z, e, hb, hc, hz⟩ := hl k hk
  exact ⟨ad, z, e, hb, (World.cell?_of_block (by rw [block_add]; exact Below.heap_setCell w ⟨g, 1, none⟩ _ _ (by show ad.block ≠ g; omega))).trans hc, hz⟩
theorem tmod_bd (z n : Int) (hn : 1 ≤ n) : -n < z.tmod n ∧ z.tmod n < n := by
  have h1 := Int.tmod_lt_of_pos z (show 0 < n by omega)
  have h2 : -n < z.tmod n := by
    have := Int.tmod_lt_of_pos (-z) (show 0 < n by omega)
    rw [Int.neg_tmod] at this; omega
  exact ⟨h2, h1⟩
set_option maxHeartbeats 1000000 in
theorem src_n (w : World) (base g : Nat) (b n : Int) (h : SrcOk w base g b) (hb : b ≤ 1000000000000000) (hn1 : 1 ≤ n) (hn2 : n ≤ 1000000000000000) :
    Calls Tryd.prog 15 #[.pointer (some ⟨g, 0, none⟩), .int .i64 n] w (NPost w base g b n) := by
  obtain ⟨h0, A, ln, c, a, hg, ha, hab, hln, hl⟩ := h
  have HSET := Lib.hid (src_set h0 hg ha hab hln hl)
  have q0 : w.cell? ⟨g, 0, none⟩ = some (.slice A ln c) := cell_of_row w g 0 _ _ (0, 0) hg
  have q1 : w.cell? ⟨g, 1, none⟩ = some (.int .i64 a) := cell_of_row w g 1 _ _ (0, 0) hg
  have qf : w.frozen? ⟨g, 1, none⟩ = false := frozen_of_row w g 1 _ _ hg
  have HG := Lib.hid (show (w.setCell ⟨g, 1, none⟩ (.int .i64 (a + 1))).heap[g]? = some (.cells #[.slice A ln c, .int .i64 (a + 1)] 54 (0, 0)) from heap_setCell_same w g 1 #[.slice A ln c, .int .i64 a] _ (.int .i64 (a + 1)) hg)
  have hkb : a + 1 ≤ 1000000000000001 := by omega
  have HL := Lib.hid hl
  have HLN := Lib.hid hln
  clear hg hl hln
  by_cases hlt : a < (ln : Int)
  · obtain ⟨ad, z, hA, hadb, hc, hz0, hz1⟩ := HL.out a.toNat (by omega)
    subst hA
    have HC := Lib.hid (show (w.setCell ⟨g, 1, none⟩ (.int .i64 (a + 1))).cell? (ad.add a.toNat) = some (.int .i64 z) from
      (World.cell?_of_block (by rw [block_add]; exact Below.heap_setCell w ⟨g, 1, none⟩ _ _ (by show ad.block ≠ g; omega))).trans hc)
    clear hc HL
    have d1 : decide (a + 1 ≤ (ln : Int)) = true := by simp; omega
    have tb := Lib.hid (tmod_bd z n hn1)
    go_enter Tryd.func15, Tryd.ntmps15
    go_wp2_with fail
    clear q0 q1 qf
    generalize w.setCell ⟨g, 1, none⟩ (.int .i64 (a + 1)) = w1 at *
    have s0 : w1.cell? ⟨g, 0, none⟩ = some (.slice (some ad) ln c) := cell_of_row w1 g 0 _ _ (0, 0) HG.out
    have s1 : w1.cell? ⟨g, 1, none⟩ = some (.int .i64 (a + 1)) := cell_of_row w1 g 1 _ _ (0, 0) HG.out
    have s2 := HC.out
    go_quiet (fail)
    have w1' : IntKind.i64.wrap (a + 1 - 1) = a := by rw [show a + 1 - 1 = a by omega]; exact IntWalk.i64_in _ (by omega)
    go_wp2_with fail
    go_quiet (fail)
    clear w1' s0 s1 s2 d1
    obtain ⟨t1, t2⟩ := tb.out
    go_wp2_with fail
    all_goals
      go_ret
      exact ⟨_, rfl, by omega, by omega, HSET.out.1, only_drewN HSET.out.2 _⟩
  · have d1 : decide (a + 1 ≤ (ln : Int)) = false := by simp; omega
    have d2 : (0 : Int) ≤ (a + 1) * 7 := by omega
    have tb1 : 0 ≤ ((a + 1) * 7) % n := Int.emod_nonneg _ (by omega)
    have tb2 : ((a + 1) * 7) % n < n := Int.emod_lt_of_pos _ (by omega)
    clear HL
    go_enter Tryd.func15, Tryd.ntmps15
    go_wp2_with fail
    clear q0 q1 qf
    generalize w.setCell ⟨g, 1, none⟩ (.int .i64 (a + 1)) = w1 at *
    have s0 : w1.cell? ⟨g, 0, none⟩ = some (.slice A ln c) := cell_of_row w1 g 0 _ _ (0, 0) HG.out
    have s1 : w1.cell? ⟨g, 1, none⟩ = some (.int .i64 (a + 1)) := cell_of_row w1 g 1 _ _ (0, 0) HG.out
    go_quiet (fail)
    clear s0 s1 d1
    go_wp2_with fail
    go_ret
    exact ⟨_, rfl, tb1, tb2, HSET.out.1, only_drewN HSET.out.2 _⟩
/-- New makes a source of a list that lies below base. -/
theorem src_new (w : World) (A : Option Addr) (n c : Nat) (hn : (n : Int) ≤ 9223372036854775807)
    (hl : ∀ k, k < n → ∃ (ad : Addr) (z : Int), A = some ad ∧ ad.block < w.heap.size ∧ w.cell? (ad.add k) = some (.int .i64 z) ∧ -9223372036854775808 ≤ z ∧ z ≤ 9223372036854775807) :
    Calls Tryd.prog 12 #[.slice A n c] w fun e w' => e = .returned (.pointer (some ⟨w.heap.size, 0, none⟩)) ∧ SrcOk w' w.heap.size w.heap.size 0 ∧ Below w.heap.size w w' := by
  have HL := Lib.hid hl
  have HN := Lib.hid hn
  clear hl hn
  go_enter Tryd.func12, Tryd.ntmps12
  go_wp2
  go_ret
  refine ⟨rfl, ⟨Nat.le_refl _, A, n, c, 0, heap_alloc_new w _, by omega, by omega, HN.out, fun k hk => ?_⟩, (Below.refl _ _).alloc (Nat.le_refl _) _⟩
  obtain ⟨ad, z, e, hb, hc, hz⟩ := HL.out k hk
  exact ⟨ad, z, e, hb, (World.cell?_of_block (by rw [block_add]; exact Below.heap_alloc w _ _ hb)).trans hc, hz⟩
end Go.Proofs.YtokkbboahajbhaaDoor
/- The source of numbers of package kauditmake: Range, Pick, Word. -/
namespace Go.Proofs.YtokkbboahajbhaaDoor
open Go.RowKit
/-- A row of strings of at most m bytes; a row of numbers from lo to hi. -/
def strsLe (cs : Array Value) (m : Nat) : Bool := cs.toList.all fun | .string x => decide (x.size ≤ m) | _ => false
def intsIn (cs : Array Value) (lo hi : Int) : Bool := cs.toList.all fun | .int .i64 x => decide (lo ≤ x) && decide (x ≤ hi) | _ => false
theorem strsLe_at {cs : Array Value} {m : Nat} (h : strsLe cs m = true) (k : Nat) (hk : k < cs.size) : ∃ x : ByteArray, cs[k]? = some (.string x) ∧ x.size ≤ m := by
  have hm : cs[k] ∈ cs.toList := Array.mem_toList_iff.2 (Array.getElem_mem hk)
  have := List.all_eq_true.1 h _ hm
  split at this
  · rename_i x e
    exact ⟨x, by rw [Array.getElem?_eq_getElem hk, e], by simpa using this⟩
  · cases this
theorem intsIn_at {cs : Array Value} {lo hi : Int} (h : intsIn cs lo hi = true) (k : Nat) (hk : k < cs.size) : ∃ x : Int, cs[k]? = some (.int .i64 x) ∧ lo ≤ x ∧ x ≤ hi := by
  have hm : cs[k] ∈ cs.toList := Array.mem_toList_iff.2 (Array.getElem_mem hk)
  have := List.all_eq_true.1 h _ hm
  split at this
  · rename_i x e
    simp at this
    exact ⟨x, by rw [Array.getElem?_eq_getElem hk, e], this.1, this.2⟩
  · cases this
def SPost (w : World) (base g : Nat) (b : Int) (m : Nat) (e : Ending) (w' : World) : Prop := ∃ x : ByteArray, e = .returned (.string x) ∧ x.size ≤ m ∧ SrcOk w' base g b ∧ w.grownBy w' (some g)
def IPost (w : World) (base g : Nat) (b lo hi : Int) (e : Ending) (w' : World) : Prop := ∃ x : Int, e = .returned (.int .i64 x) ∧ lo ≤ x ∧ x ≤ hi ∧ SrcOk w' base g b ∧ w.grownBy w' (some g)
theorem only_cell {w w' : World} {g B : Nat} {cs : Array Value} {t : TypeId} {fr : Nat × Nat} (hg : w.grownBy w' (some g)) (hB : w.heap[B]? = some (.cells cs t fr)) (hne : B ≠ g) (k : Nat) : w'.cell? ⟨B, k, none⟩ = cs[k]? :=
  cell_of_row w' B k cs t fr ((hg.block B (Array.getElem?_eq_some_iff.1 hB).1 (fun e => hne (by injection e))).trans hB)
set_option maxHeartbeats 400000 in
theorem src_range (w : World) (base g : Nat) (b lo hi : Int) (h : SrcOk w base g b) (hb : b ≤ 1000000000000000) (h1 : lo ≤ hi) (h2 : -1000000 ≤ lo) (h3 : hi ≤ 1000000) :
    Calls Tryd.prog 32 #[.pointer (some ⟨g, 0, none⟩), .int .i64 lo, .int .i64 hi] w (IPost w base g (b + 1) lo hi) := by
  have H := Lib.hid h
  have HB := Lib.hid hb
  clear h hb
  go_enter Tryd.func32, Tryd.ntmps32
  go_wp2_with fail
  refine (src_n _ base g b _ H.out HB.out (by omega) (by omega)).mono ?_
  rintro e w1 ⟨x, rfl, hx0, hx1, hs, hg⟩
  have HS := Lib.hid hs
  clear hs
  go_wp2_with fail
  go_ret
  exact ⟨_, rfl, by omega, by omega, HS.out, hg⟩
set_option maxHeartbeats 400000 in
theorem src_word (w : World) (base g B : Nat) (b : Int) (n m : Nat) (cs : Array Value) (t : TypeId) (fr : Nat × Nat) (h : SrcOk w base g b) (hb : b ≤ 1000000000000000) (hB : w.heap[B]? = some (.cells cs t fr)) (hne : B ≠ g)
    (hn : cs.size = n) (h1 : 1 ≤ n) (h2 : n ≤ 1000) (hall : strsLe cs m = true) :
    Calls Tryd.prog 34 #[.pointer (some ⟨g, 0, none⟩), .slice (some ⟨B, 0, none⟩) n n] w (SPost w base g (b + 1) m) := by
  have H := Lib.hid h
  have HB := Lib.hid hb
  have HBB := Lib.hid hB
  have HN := Lib.hid hn
  clear h hb hB hn
  go_enter Tryd.func34, Tryd.ntmps34
  go_wp2_with fail
  refine (src_n _ base g b _ H.out HB.out (by omega) (by omega)).mono ?_
  rintro e w1 ⟨x, rfl, hx0, hx1, hs, hg⟩
  have HS := Lib.hid hs
  clear hs
  obtain ⟨k, rfl⟩ := Int.eq_ofNat_of_zero_le hx0
  have hk : k < n := by omega
  obtain ⟨y, hy, hym⟩ := strsLe_at hall k (by rw [HN.out]; exact hk)
  have hc := (only_cell hg HBB.out hne k).trans hy
  clear hy
  go_wp2_with fail
  go_ret
  exact ⟨_, rfl, hym, HS.out, hg⟩
set_option maxHeartbeats 400000 in
theorem src_pick (w : World) (base g B : Nat) (b : Int) (n : Nat) (lo hi : Int) (cs : Array Value) (t : TypeId) (fr : Nat × Nat) (h : SrcOk w base g b) (hb : b ≤ 1000000000000000) (hB : w.heap[B]? = some (.cells cs t fr)) (hne : B ≠ g)
    (hn : cs.size = n) (h1 : 1 ≤ n) (h2 : n ≤ 1000) (hall : intsIn cs lo hi = true) :
    Calls Tryd.prog 31 #[.pointer (some ⟨g, 0, none⟩), .slice (some ⟨B, 0, none⟩) n n] w (IPost w base g (b + 1) lo hi) := by
  have H := Lib.hid h
  have HB := Lib.hid hb
  have HBB := Lib.hid hB
  have HN := Lib.hid hn
  clear h hb hB hn
  go_enter Tryd.func31, Tryd.ntmps31
  go_wp2_with fail
  refine (src_n _ base g b _ H.out HB.out (by omega) (by omega)).mono ?_
  rintro e w1 ⟨x, rfl, hx0, hx1, hs, hg⟩
  have HS := Lib.hid hs
  clear hs
  obtain ⟨k, rfl⟩ := Int.eq_ofNat_of_zero_le hx0
  have hk : k < n := by omega
  obtain ⟨y, hy, hy0, hy1⟩ := intsIn_at hall k (by rw [HN.out]; exact hk)
  have hc := (only_cell hg HBB.out hne k).trans hy
  clear hy
  go_wp2_with fail
  go_ret
  exact ⟨_, rfl, hy0, hy1, HS.out, hg⟩
end Go.Proofs.YtokkbboahajbhaaDoor
/- The source of numbers of package kauditmake: Text, Name, Path. -/
namespace Go.Proofs.YtokkbboahajbhaaDoor
open Go.RowKit
set_option maxHeartbeats 1000000 in
theorem src_text (w : World) (base g : Nat) (b : Int) (h : SrcOk w base g b) (hb : b ≤ 100000000000000) :
    Calls Tryd.prog 16 #[.pointer (some ⟨g, 0, none⟩)] w (SPost w base g (b + 5) 4) := by
  have H := Lib.hid h
  have HB := Lib.hid hb
  clear h hb
  go_enter Tryd.func16, Tryd.ntmps16
  go_wp2_with fail
  refine (src_n _ base g b _ H.out (by have := HB.out; omega) (by omega) (by omega)).mono ?_
  rintro e w1 ⟨x, rfl, hx0, hx1, hs, hg⟩
  obtain ⟨k0, rfl⟩ := Int.eq_ofNat_of_zero_le hx0
  have HS := Lib.hid hs
  clear hs hx0
  go_wp2_with fail
  go_loopw [3, 4] (fun v i wr => ∃ (T : ByteArray) (k : Nat), v = .string T ∧ i = .int .i64 (k : Int) ∧ T.size + k ≤ 4 ∧ w.grownBy wr (some g) ∧ Hid (SrcOk wr base g (b + 5 - k))) (fun _ i _ => (intOf i).toNat)
  case atStart => exact ⟨⟨#[]⟩, k0, rfl, rfl, by show 0 + k0 ≤ 4; omega, hg, HS.out.more (by omega)⟩
  case round =>
    obtain ⟨T, k, rfl, rfl, hT, hgr, hsr⟩ := hrel
    clear hg HS hx1
    by_cases hk : 0 < k
    · have hk1 : (0 : Int) < (k : Int) := by omega
      have hT4 : T.size ≤ 4 := by omega
      have hlt : g < wr.heap.size := src_lt hsr.out
      go_wp2_with fail
      refine (src_word _ base g wr.heap.size (b + 5 - k) 12 1 _ 9 (0, 0) (hsr.out.alloc _) (by have := HB.out; omega) (heap_alloc_new wr _) (by omega) rfl (by omega) (by omega) rfl).mono ?_
      rintro e w2 ⟨y, rfl, hym, hs2, hg2⟩
      have HS2 := Lib.hid hs2
      have hgf := (only_alloc hgr _).trans hg2
      clear hs2 hg2
      go_wp2_with fail
      go_roundw
      case rel => exact ⟨_, k - 1, rfl, by go_num, by rw [ByteArray.size_append]; omega, hgf, HS2.out.more (by omega)⟩
      case measure => simp [intOf]; omega
    · go_wp2_with fail
      go_ret
      exact ⟨_, rfl, by omega, hsr.out.more (by omega), hgr⟩
theorem SPost.more {w w' : World} {base g : Nat} {b b' : Int} {m m' : Nat} {e : Ending} (h : SPost w base g b m e w') (hb : b ≤ b') (hm : m ≤ m') : SPost w base g b' m' e w' := by
  obtain ⟨x, h1, h2, h3, h4⟩ := h
  exact ⟨x, h1, by omega, h3.more hb, h4⟩
set_option maxHeartbeats 1000000 in
theorem src_name (w : World) (base g : Nat) (b : Int) (h : SrcOk w base g b) (hb : b ≤ 100000000000000) :
    Calls Tryd.prog 48 #[.pointer (some ⟨g, 0, none⟩)] w (SPost w base g (b + 2) 13) := by
  have H := Lib.hid h
  have HB := Lib.hid hb
  clear h hb
  go_enter Tryd.func48, Tryd.ntmps48
  go_wp2_with fail
  refine (src_n _ base g b _ H.out (by have := HB.out; omega) (by omega) (by omega)).mono ?_
  rintro e w1 ⟨x, rfl, hx0, hx1, hs, hg⟩
  have HS := Lib.hid hs
  have hlt : g < w1.heap.size := src_lt hs
  clear hs
  by_cases hx : x = 19
  · have hxb : (x == 19) = true := by simpa using hx
    clear hx
    go_wp2_with fail
    refine (src_word _ base g w1.heap.size (b + 1) 8 13 _ 9 (0, 0) (HS.out.alloc _) (by have := HB.out; omega) (heap_alloc_new w1 _) (by omega) rfl (by omega) (by omega) rfl).mono ?_
    rintro e w2 ⟨y, rfl, hym, hs2, hg2⟩
    have HS2 := Lib.hid hs2
    clear hs2
    go_wp2_with fail
    go_ret
    exact ⟨_, rfl, hym, HS2.out.more (by omega), (only_alloc hg _).trans hg2⟩
  · have hxb : (x == 19) = false := by simpa using hx
    clear hx
    go_wp2_with fail
    refine (src_word _ base g w1.heap.size (b + 1) 6 13 _ 9 (0, 0) (HS.out.alloc _) (by have := HB.out; omega) (heap_alloc_new w1 _) (by omega) rfl (by omega) (by omega) rfl).mono ?_
    rintro e w2 ⟨y, rfl, hym, hs2, hg2⟩
    have HS2 := Lib.hid hs2
    clear hs2
    go_wp2_with fail
    go_ret
    exact ⟨_, rfl, hym, HS2.out.more (by omega), (only_alloc hg _).trans hg2⟩
set_option maxRecDepth 100000 in
set_option maxHeartbeats 4000000 in
theorem src_path (w : World) (base g : Nat) (b : Int) (h : SrcOk w base g b) (hb : b ≤ 10000000000000) :
    Calls Tryd.prog 33 #[.pointer (some ⟨g, 0, none⟩)] w (SPost w base g (b + 20) 60) := by
  have H := Lib.hid h
  have HB := Lib.hid hb
  clear h hb
  go_enter Tryd.func33, Tryd.ntmps33
  go_wp2_with fail
  refine (src_n _ base g b _ H.out (by have := HB.out; omega) (by omega) (by omega)).mono ?_
  rintro e w1 ⟨x, rfl, hx0, hx1, hs, hg⟩
  have HS := Lib.hid hs
  have hlt1 : g < w1.heap.size := src_lt hs
  clear hs
  go_wp2_with fail
  all_goals
    refine (src_pick _ base g w1.heap.size (b + 1) 7 0 4 _ 3 (0, 0) (HS.out.alloc _) (by have := HB.out; omega) (heap_alloc_new w1 _) (by omega) rfl (by omega) (by omega) rfl).mono ?_
    rintro e w2 ⟨n, rfl, hn0, hn1, hs2, hg2⟩
    obtain ⟨n0, rfl⟩ := Int.eq_ofNat_of_zero_le hn0
    have HS2 := Lib.hid hs2
    have hgf := (only_alloc hg (.cells #[.int .i64 1, .int .i64 1, .int .i64 2, .int .i64 2, .int .i64 3, .int .i64 0, .int .i64 4] 3)).trans hg2
    clear hs2 hg2 hg
    go_wp2_with fail
    go_loopw [3, 5] (fun v i wr => ∃ (T : ByteArray) (k : Nat), v = .string T ∧ i = .int .i64 (k : Int) ∧ k ≤ n0 ∧ T.size ≤ 1 + 14 * k ∧ w.grownBy wr (some g) ∧ Hid (SrcOk wr base g (b + 2 + 3 * k))) (fun _ i _ => n0 - (intOf i).toNat)
    case atStart => exact ⟨_, 0, rfl, rfl, Nat.zero_le _, by decide, hgf, HS2.out.more (by omega)⟩
    case round =>
      obtain ⟨T, k, rfl, rfl, hk, hT, hgr, hsr⟩ := hrel
      clear hgf HS2 HS
      have hT4 : T.size ≤ 100 := by omega
      by_cases hkn : k < n0
      · by_cases hk0 : 0 < k
        all_goals
          go_wp2_with fail
          refine (src_n _ base g (b + 2 + 3 * k) _ hsr.out (by have := HB.out; omega) (by omega) (by omega)).mono ?_
          rintro e w3 ⟨y, rfl, hy0, hy1, hs3, hg3⟩
          have HS3 := Lib.hid hs3
          have hg3' := hgr.trans hg3
          have hlt3 : g < w3.heap.size := src_lt hs3
          clear hs3 hg3
          by_cases hy : y = 7
          · have hyb : (y == 7) = true := by simpa using hy
            clear hy
            go_wp2_with fail
            refine (src_word _ base g w3.heap.size (b + 2 + 3 * k + 1) 4 13 _ 9 (0, 0) (HS3.out.alloc _) (by have := HB.out; omega) (heap_alloc_new w3 _) (by omega) rfl (by omega) (by omega) rfl).mono ?_
            rintro e w4 ⟨z, rfl, hzm, hs4, hg4⟩
            have HS4 := Lib.hid hs4
            have hg4' := (only_alloc hg3' (.cells #[.string ⟨#[46]⟩, .string ⟨#[46, 46]⟩, .string ⟨#[]⟩, .string ⟨#[97, 47, 47, 98]⟩] 9)).trans hg4
            clear hs4 hg4
            go_wp2_with fail
            go_roundw
            case rel => exact ⟨_, k + 1, rfl, by go_num, by omega, by simp only [ByteArray.size_append]; first | omega | (show _ + 1 + _ ≤ _; omega), hg4', HS4.out.more (by omega)⟩
            case measure => simp [intOf]; omega
          · have hyb : (y == 7) = false := by simpa using hy
            clear hy
            go_wp2_with fail
            refine (src_name _ base g (b + 2 + 3 * k + 1) HS3.out (by have := HB.out; omega)).mono ?_
            rintro e w4 ⟨z, rfl, hzm, hs4, hg4⟩
            have HS4 := Lib.hid hs4
            have hg4' := hg3'.trans hg4
            clear hs4 hg4
            go_wp2_with fail
            go_roundw
            case rel => exact ⟨_, k + 1, rfl, by go_num, by omega, by simp only [ByteArray.size_append]; first | omega | (show _ + 1 + _ ≤ _; omega), hg4', HS4.out.more (by omega)⟩
            case measure => simp [intOf]; omega
      · go_wp2_with fail
        refine (src_n _ base g (b + 2 + 3 * k) _ hsr.out (by have := HB.out; omega) (by omega) (by omega)).mono ?_
        rintro e w3 ⟨y, rfl, hy0, hy1, hs3, hg3⟩
        have HS3 := Lib.hid hs3
        have hg3' := hgr.trans hg3
        clear hs3 hg3
        by_cases hy : y = 7
        · have hyb : (y == 7) = true := by simpa using hy
          clear hy
          go_wp2_with fail
          go_ret
          exact ⟨_, rfl, by rw [ByteArray.size_append]; show _ + 1 ≤ _; omega, HS3.out.more (by omega), hg3'⟩
        · have hyb : (y == 7) = false := by simpa using hy
          clear hy
          go_wp2_with fail
          go_ret
          exact ⟨_, rfl, by omega, HS3.out.more (by omega), hg3'⟩
end Go.Proofs.YtokkbboahajbhaaDoor
/- The source of numbers of package kauditmake: Call. -/
namespace Go.Proofs.YtokkbboahajbhaaDoor
open Go.RowKit
/-- Block gc holds a call. -/
def CBlk (w : World) (gc : Nat) (z : Int) (a : Nat → Int) (vp va : Value) : Prop := Blk w gc 25 #[.int .i64 z, .int .i64 (a 0), .int .i64 (a 1), .int .i64 (a 2), .int .i64 (a 3), vp, va] ∧ ∀ j, j < 4 → 0 ≤ a j ∧ a j ≤ 1000
theorem SrcOk.row {w : World} {base g : Nat} {b : Int} (h : SrcOk w base g b) {p : Addr} (hp : base ≤ p.block) (hne : p.block ≠ g) (u : Value) : SrcOk (w.setCell p u) base g b := h.setCell hp hne u
def setA (a : Nat → Int) (k : Nat) (v : Int) : Nat → Int := fun j => if j = k then v else a j
theorem CBlk.setA {w : World} {gc : Nat} {z : Int} {a : Nat → Int} {vp va : Value} (h : CBlk w gc z a vp va) (k : Nat) (hk : k < 4) (v : Int) (h0 : 0 ≤ v) (h1 : v ≤ 1000) : CBlk (w.setCell ⟨gc, 1 + k, none⟩ (.int .i64 v)) gc z (setA a k v) vp va := by
  refine ⟨?_, fun j hj => ?_⟩
  · have := h.1.put (1 + k) (.int .i64 v)
    match k, hk with
    | 0, _ => exact this
    | 1, _ => exact this
    | 2, _ => exact this
    | 3, _ => exact this
  · unfold Go.Proofs.YtokkbboahajbhaaDoor.setA
    split
    · exact ⟨h0, h1⟩
    · exact h.2 j hj
theorem CBlk.only {w w' : World} {gc g : Nat} {z : Int} {a : Nat → Int} {vp va : Value} (h : CBlk w gc z a vp va) (hg : w.grownBy w' (some g)) (hne : gc ≠ g) : CBlk w' gc z a vp va := ⟨h.1.grown hg (fun e => hne (by injection e with e; exact e.symm)), h.2⟩
theorem CBlk.below {w w' : World} {gc : Nat} {z : Int} {a : Nat → Int} {vp va : Value} (h : CBlk w gc z a vp va) (hb : Below w.heap.size w w') : CBlk w' gc z a vp va := ⟨h.1.below hb, h.2⟩
theorem CBlk.alloc {w : World} {gc : Nat} {z : Int} {a : Nat → Int} {vp va : Value} (h : CBlk w gc z a vp va) (o : Obj) : CBlk (w.alloc o) gc z a vp va := ⟨h.1.alloc o, h.2⟩
abbrev zeroC : Array Value := #[.int .i64 0, .int .i64 0, .int .i64 0, .int .i64 0, .int .i64 0, .slice none 0 0, .slice none 0 0]
/-- What the making of a call keeps: the source, the call so far, the block of the result. -/
structure CSt (w wr : World) (base g : Nat) (b : Int) (rc gc : Nat) (z : Int) (a : Nat → Int) (vp va : Value) : Prop where
  only : w.grownBy wr (some g)
  src : SrcOk wr base g b
  cb : CBlk wr gc z a vp va
  rb : Blk wr rc 25 zeroC
  h1 : w.heap.size ≤ rc
  h2 : rc < gc
  h3 : g < w.heap.size
  h4 : base ≤ w.heap.size
section
variable {w wr w' : World} {base g rc gc : Nat} {b b' : Int} {z : Int} {a : Nat → Int} {vp va : Value}
theorem CSt.more (h : CSt w wr base g b rc gc z a vp va) (hb : b ≤ b') : CSt w wr base g b' rc gc z a vp va := ⟨h.only, h.src.more hb, h.cb, h.rb, h.h1, h.h2, h.h3, h.h4⟩
theorem CSt.alloc (h : CSt w wr base g b rc gc z a vp va) (o : Obj) : CSt w (wr.alloc o) base g b rc gc z a vp va := ⟨only_alloc h.only o, h.src.alloc o, h.cb.alloc o, h.rb.alloc o, h.h1, h.h2, h.h3, h.h4⟩
theorem CSt.step (h : CSt w wr base g b rc gc z a vp va) (hs : SrcOk w' base g b') (hg : wr.grownBy w' (some g)) : CSt w w' base g b' rc gc z a vp va :=
  ⟨h.only.trans hg, hs, h.cb.only hg (by have := h.h1; have := h.h2; have := h.h3; omega), h.rb.grown hg (fun e => by injection e with e; have := h.h1; have := h.h3; omega), h.h1, h.h2, h.h3, h.h4⟩
theorem CSt.below (h : CSt w wr base g b rc gc z a vp va) (hb : Below wr.heap.size wr w') : CSt w w' base g b rc gc z a vp va :=
  ⟨only_below h.only hb, h.src.below hb, h.cb.below hb, h.rb.below hb, h.h1, h.h2, h.h3, h.h4⟩
theorem CSt.setA (h : CSt w wr base g b rc gc z a vp va) (k : Nat) (hk : k < 4) (v : Int) (h0 : 0 ≤ v) (h1 : v ≤ 1000) : CSt w (wr.setCell ⟨gc, 1 + k, none⟩ (.int .i64 v)) base g b rc gc z (setA a k v) vp va :=
  ⟨only_setCell h.only (.inr (by show w.heap.size ≤ gc; have := h.h1; have := h.h2; omega)) _, h.src.setCell (by show base ≤ gc; have := h.h1; have := h.h2; have := h.h4; omega) (by show gc ≠ g; have := h.h1; have := h.h2; have := h.h3; omega) _, h.cb.setA k hk v h0 h1, h.rb.put_other _ (by show rc ≠ gc; have := h.h2; omega), h.h1, h.h2, h.h3, h.h4⟩
theorem CSt.drew (h : CSt w wr base g b rc gc z a vp va) : CSt w wr.drew base g b rc gc z a vp va := ⟨⟨h.only.os, h.only.tape, h.only.output, h.only.size, h.only.block⟩, h.src.drew, h.cb, h.rb, h.h1, h.h2, h.h3, h.h4⟩
theorem CSt.grown (h : CSt w wr base g b rc gc z a vp va) {row : Option Nat} (hg : wr.grownBy w' row) (hr : ∀ r, row = some r → gc < r) : CSt w w' base g b rc gc z a vp va :=
  ⟨⟨hg.os.trans h.only.os, hg.tape.trans h.only.tape, hg.output.trans h.only.output, Nat.le_trans h.only.size hg.size, fun i hi hne => (hg.block i (Nat.lt_of_lt_of_le hi h.only.size) (fun e => by have := hr i e.symm; have := h.h1; have := h.h2; omega)).trans (h.only.block i hi hne)⟩,
    h.src.grown hg (fun r e => by have := hr r e; have := h.h1; have := h.h2; have := h.h3; have := h.h4; omega), ⟨h.cb.1.grown hg (fun e => by have := hr gc e; omega), h.cb.2⟩, h.rb.grown hg (fun e => by have := hr rc e; have := h.h2; omega), h.h1, h.h2, h.h3, h.h4⟩
theorem CSt.setP (h : CSt w wr base g b rc gc z a vp va) (v : Value) : CSt w (wr.setCell ⟨gc, 5, none⟩ v) base g b rc gc z a v va :=
  ⟨only_setCell h.only (.inr (by show w.heap.size ≤ gc; have := h.h1; have := h.h2; omega)) _, h.src.setCell (by show base ≤ gc; have := h.h1; have := h.h2; have := h.h4; omega) (by show gc ≠ g; have := h.h1; have := h.h2; have := h.h3; omega) _, ⟨h.cb.1.put 5 v, h.cb.2⟩, h.rb.put_other _ (by show rc ≠ gc; have := h.h2; omega), h.h1, h.h2, h.h3, h.h4⟩
theorem CSt.setG (h : CSt w wr base g b rc gc z a vp va) (v : Value) : CSt w (wr.setCell ⟨gc, 6, none⟩ v) base g b rc gc z a vp v :=
  ⟨only_setCell h.only (.inr (by show w.heap.size ≤ gc; have := h.h1; have := h.h2; omega)) _, h.src.setCell (by show base ≤ gc; have := h.h1; have := h.h2; have := h.h4; omega) (by show gc ≠ g; have := h.h1; have := h.h2; have := h.h3; omega) _, ⟨h.cb.1.put 6 v, h.cb.2⟩, h.rb.put_other _ (by show rc ≠ gc; have := h.h2; omega), h.h1, h.h2, h.h3, h.h4⟩
theorem CSt.setZ (h : CSt w wr base g b rc gc z a vp va) (z' : Int) : CSt w (wr.setCell ⟨gc, 0, none⟩ (.int .i64 z')) base g b rc gc z' a vp va :=
  ⟨only_setCell h.only (.inr (by show w.heap.size ≤ gc; have := h.h1; have := h.h2; omega)) _, h.src.setCell (by show base ≤ gc; have := h.h1; have := h.h2; have := h.h4; omega) (by show gc ≠ g; have := h.h1; have := h.h2; have := h.h3; omega) _, ⟨h.cb.1.put 0 (.int .i64 z'), h.cb.2⟩, h.rb.put_other _ (by show rc ≠ gc; have := h.h2; omega), h.h1, h.h2, h.h3, h.h4⟩
theorem one_at_new (w : World) (x : ByteArray) (t : TypeId) : StrsAt (w.alloc (.cells #[.string x] t)) (w.heap.size + 1) (some ⟨w.heap.size, 0, none⟩) [x] := fun k hk => by
  have hk : k = 0 := by simp at hk; omega
  subst hk
  exact ⟨_, rfl, by show w.heap.size < _; omega, by show World.cell? _ ⟨w.heap.size, 0, none⟩ = _; rw [(Blk.new w #[.string x] t).cell]; rfl⟩
theorem OwnS.only {w w' : World} {lo : Nat} {v : Value} {L : List ByteArray} (h : OwnS w lo v L) {g : Nat} (hg : w.grownBy w' (some g)) (hlt : g < lo) : OwnS w' lo v L :=
  World.ownsRow.kept h hg (by
    cases hv : v.ownBlock with
    | none => exact .inl rfl
    | some k => right; intro e; injection e with e; have := h.ge k hv; omega)
theorem OwnS.setCell {w : World} {lo : Nat} {v : Value} {L : List ByteArray} (h : OwnS w lo v L) {p : Addr} (hp : p.block < lo) (u : Value) : OwnS (w.setCell p u) lo v L := ownsRow_setCell_below h hp u
end
/-- What Call makes: a call whose lists are its own. -/
def CallPost (w : World) (base g : Nat) (b : Int) (e : Ending) (w' : World) : Prop := ∃ (z : Int) (a : Nat → Int) (vp va : Value) (ps gs : List ByteArray), e = .returned (.agg #[.int .i64 z, .int .i64 (a 0), .int .i64 (a 1), .int .i64 (a 2), .int .i64 (a 3), vp, va]) ∧ (-1 ≤ z ∧ z ≤ 33) ∧ (∀ j, j < 4 → 0 ≤ a j ∧ a j ≤ 1000) ∧ ps.length ≤ 2 ∧ gs.length ≤ 4 ∧ (∀ s ∈ ps, s.size ≤ 60) ∧ (∀ s ∈ gs, s.size ≤ 4) ∧ OwnS w' w.heap.size vp ps ∧ OwnS w' w.heap.size va gs ∧ SrcOk w' base g b ∧ w.grownBy w' (some g)
theorem call_size : (Tryd.prog.info? 25).map (·.size) = some 7 := by kernel_rfl
theorem call_ret {f : FuncId} {fn : Func} (_hf : Tryd.prog.funcs[f]? = some fn) (h : fn.results = #[.cell 2 25]) (tmps : Array Value) (w : World) (g : Nat) (cs : Array Value) (hp : tmps.getD 2 undef = .pointer (some ⟨g, 0, none⟩)) (hg : Blk w g 25 cs) (h7 : cs.size = 7) :
    (results fn tmps).run Tryd.prog w = .ok (.agg cs) w :=
  results_cell_row h tmps w g _ cs (0, 0) _ hp hg Tryd.underlying25 rfl (by rw [h7]; exact call_size)
theorem OwnS.mono {w : World} {lo lo' : Nat} {v : Value} {L : List ByteArray} (h : OwnS w lo v L) (hb : lo' ≤ lo) : OwnS w lo' v L := Joins.ownsRow_le h hb
theorem OwnS.far {w w' : World} {lo : Nat} {v v2 : Value} {L : List ByteArray} (h : OwnS w lo v L) (hg : w.grownBy w' v2.ownBlock) (hne : ∀ r, v.ownBlock = some r → v2.ownBlock ≠ some r) : OwnS w' lo v L :=
  World.ownsRow.kept h hg (by
    cases hv : v.ownBlock with
    | none => exact .inl rfl
    | some k => right; intro e; exact hne k hv e.symm)
theorem slice_form {w : World} {lo : Nat} {v : Value} {L : List ByteArray} (h : OwnS w lo v L) : ∃ A n c, v = .slice A n c := by
  obtain ⟨A, c, e, _⟩ := h.strs
  exact ⟨A, _, c, e⟩
attribute [local irreducible] rowI rowC
set_option maxRecDepth 100000 in
set_option maxHeartbeats 16000000 in
theorem src_call (w : World) (base g : Nat) (b : Int) (h : SrcOk w base g b) (hb : b ≤ 1000000000000) :
    Calls Tryd.prog 13 #[.pointer (some ⟨g, 0, none⟩)] w (CallPost w base g (b + 200)) := by
  have H := Lib.hid h
  have HB := Lib.hid hb
  have hlt0 : g < w.heap.size := src_lt h
  have hbase : base ≤ w.heap.size := by have := h.1; omega
  clear h hb
  go_enter Tryd.func13, Tryd.ntmps13
  go_wp2_with fail
  refine (src_pick _ base g (w.heap.size + 1) b 26 0 21 _ 3 (0, 0) ((H.out.alloc (.cells zeroC 25)).alloc _) (by have := HB.out; omega) (by have := heap_alloc_new (w.alloc (.cells zeroC 25)) (.cells #[.int .i64 0, .int .i64 1, .int .i64 2, .int .i64 3, .int .i64 4, .int .i64 5, .int .i64 6, .int .i64 6, .int .i64 6, .int .i64 7, .int .i64 8, .int .i64 9, .int .i64 10, .int .i64 11, .int .i64 11, .int .i64 12, .int .i64 13, .int .i64 13, .int .i64 14, .int .i64 15, .int .i64 16, .int .i64 17, .int .i64 18, .int .i64 19, .int .i64 20, .int .i64 21] 3); simpa using this) (by omega) rfl (by omega) (by omega) rfl).mono ?_
  rintro e w1 ⟨z, rfl, hz0, hz1, hs1, hg1⟩
  have hon := (only_alloc (only_alloc (World.grownBy.refl w (some g)) (.cells zeroC 25)) (.cells #[.int .i64 0, .int .i64 1, .int .i64 2, .int .i64 3, .int .i64 4, .int .i64 5, .int .i64 6, .int .i64 6, .int .i64 6, .int .i64 7, .int .i64 8, .int .i64 9, .int .i64 10, .int .i64 11, .int .i64 11, .int .i64 12, .int .i64 13, .int .i64 13, .int .i64 14, .int .i64 15, .int .i64 16, .int .i64 17, .int .i64 18, .int .i64 19, .int .i64 20, .int .i64 21] 3)).trans hg1
  have hrb : Blk w1 w.heap.size 25 zeroC := ((Blk.new w zeroC 25).alloc _).grown hg1 (fun e => by injection e with e; omega)
  have hlt1 : w.heap.size < w1.heap.size := hrb.lt
  have HST : CSt w (w1.alloc (.cells #[.int .i64 z, .int .i64 0, .int .i64 0, .int .i64 0, .int .i64 0, .slice none 0 0, .slice none 0 0] 25)) base g (b + 1) w.heap.size w1.heap.size z (fun _ => 0) (.slice none 0 0) (.slice none 0 0) :=
    ⟨only_alloc hon _, hs1.alloc _, ⟨Blk.new w1 _ _, fun j _ => by simp⟩, hrb.alloc _, Nat.le_refl _, hlt1, hlt0, hbase⟩
  clear hs1 hg1 hon hrb
  go_wp2_with fail
  have HSH := Lib.hid (rshape z)
  have hsm : (rowI z).nums ≤ 2 ∧ (rowI z).pths ≤ 2 ∧ (rowI z).least ≤ 1 ∧ (rowI z).most ≤ 4 ∧ (rowI z).least ≤ (rowI z).most := by
    obtain ⟨n, rfl⟩ := Int.eq_ofNat_of_zero_le hz0
    rw [rowI_nat]
    have H : ∀ m : Fin 22, (rowC m).nums ≤ 2 ∧ (rowC m).pths ≤ 2 ∧ (rowC m).least ≤ 1 ∧ (rowC m).most ≤ 4 ∧ (rowC m).least ≤ (rowC m).most := by decide +kernel
    exact H ⟨n, by omega⟩
  generalize rowI z = r at *
  obtain ⟨nm, m, p, l, u⟩ := r
  obtain ⟨s1, s2, s3, s4, s5⟩ := hsm
  simp only at s1 s2 s3 s4 s5
  refine (HSH.out _).mono ?_
  rintro e w2 ⟨rfl, hb2⟩
  have hst2 := HST.below hb2
  clear HST hb2 HSH
  go_wp2_with fail
  generalize w1.heap.size = gc at *
  generalize w.heap.size = rc at *
  go_loopw [8] (fun i wr => ∃ (k : Nat) (a : Nat → Int), k ≤ m ∧ i = .int .i64 (k : Int) ∧ CSt w wr base g (b + 1 + k) rc gc z a (.slice none 0 0) (.slice none 0 0)) (fun i _ => m - (intOf i).toNat)
  case atStart => exact ⟨0, _, Nat.zero_le _, rfl, hst2.more (by omega)⟩
  case round =>
    obtain ⟨k, a, hk, rfl, hst⟩ := hrel
    clear hst2
    by_cases hkm : k < m
    · have hlt : g < wr.heap.size := src_lt hst.src
      go_wp2_with fail
      refine (src_pick _ base g wr.heap.size (b + 1 + k) 8 0 493 _ 3 (0, 0) (hst.src.alloc _) (by have := HB.out; omega) (heap_alloc_new wr _) (by omega) rfl (by omega) (by omega) rfl).mono ?_
      rintro e w3 ⟨x, rfl, hx0, hx1, hs3, hg3⟩
      have hst3 := (hst.alloc (.cells #[.int .i64 0, .int .i64 1, .int .i64 2, .int .i64 3, .int .i64 5, .int .i64 7, .int .i64 420, .int .i64 493] 3)).step hs3 hg3
      clear hs3 hg3 hst
      have hcs : k = 0 ∨ k = 1 := by omega
      rcases hcs with rfl | rfl
      · have q := hst3.cb.1.cell 1
        have f := hst3.cb.1.free 1
        go_wp2_with fail
        go_roundw
        case rel => exact ⟨1, _, by omega, by go_num, (hst3.setA 0 (by omega) x hx0 (by omega)).more (by omega)⟩
        case measure => simp [intOf]; omega
      · have q := hst3.cb.1.cell 2
        have f := hst3.cb.1.free 2
        go_wp2_with fail
        go_roundw
        case rel => exact ⟨2, _, by omega, by go_num, (hst3.setA 1 (by omega) x hx0 (by omega)).more (by omega)⟩
        case measure => simp [intOf]; omega
    · have q0 := hst.cb.1.cell 0
      have HST := hst
      go_upto_block 2 with (fail)
      go_cut [] (fun wx => ∃ a, CSt w wx base g (b + 10) rc gc z a (.slice none 0 0) (.slice none 0 0))
      case first =>
        clear q0
        by_cases h6 : z = 6
        · have t6 : (z == 6) = true := by simpa using h6
          clear h6
          go_wp2_with fail
          refine (src_pick _ base g wr.heap.size (b + 1 + k) 12 0 64 _ 3 (0, 0) (hst.src.alloc _) (by have := HB.out; omega) (heap_alloc_new wr _) (by have := src_lt hst.src; omega) rfl (by omega) (by omega) rfl).mono ?_
          rintro e w3 ⟨x, rfl, x0, x1, hs, hg⟩
          have st_w3 := (hst.alloc (.cells #[.int .i64 1, .int .i64 2, .int .i64 3, .int .i64 6, .int .i64 6, .int .i64 7, .int .i64 14, .int .i64 22, .int .i64 33, .int .i64 38, .int .i64 0, .int .i64 64] 3)).step hs hg
          clear hs hg hst
          go_wp2_with fail
          refine (src_pick _ base g w3.heap.size (b + 1 + k + 1) 5 0 512 _ 3 (0, 0) (st_w3.src.alloc _) (by have := HB.out; omega) (heap_alloc_new w3 _) (by have := src_lt st_w3.src; omega) rfl (by omega) (by omega) rfl).mono ?_
          rintro e w4 ⟨y, rfl, y0, y1, hs, hg⟩
          have st_w4 := (st_w3.alloc (.cells #[.int .i64 420, .int .i64 384, .int .i64 0, .int .i64 511, .int .i64 512] 3)).step hs hg
          clear hs hg st_w3
          have q1 := st_w4.cb.1.cell 1
          have f1 := st_w4.cb.1.free 1
          have q2 := st_w4.cb.1.cell 2
          have f2 := st_w4.cb.1.free 2
          have q3 := st_w4.cb.1.cell 3
          have f3 := st_w4.cb.1.free 3
          have q4 := st_w4.cb.1.cell 4
          have f4 := st_w4.cb.1.free 4
          go_wp2_with fail
          go_meet
          exact ⟨_, ((((st_w4.setA 0 (by omega) x x0 (by omega)).setA 1 (by omega) y y0 (by omega)).setA 2 (by omega) 0 (by omega) (by omega)).setA 3 (by omega) 0 (by omega) (by omega)).more (by omega)⟩
        · have t6 : (z == 6) = false := by simpa using h6
          by_cases h11 : z = 11
          · have t11 : (z == 11) = true := by simpa using h11
            clear h6 h11
            go_wp2_with fail
            refine (src_pick _ base g wr.heap.size (b + 1 + k) 4 0 512 _ 3 (0, 0) (hst.src.alloc _) (by have := HB.out; omega) (heap_alloc_new wr _) (by have := src_lt hst.src; omega) rfl (by omega) (by omega) rfl).mono ?_
            rintro e w3 ⟨x, rfl, x0, x1, hs, hg⟩
            have st_w3 := (hst.alloc (.cells #[.int .i64 493, .int .i64 511, .int .i64 448, .int .i64 512] 3)).step hs hg
            clear hs hg hst
            have q1 := st_w3.cb.1.cell 1
            have f1 := st_w3.cb.1.free 1
            go_wp2_with fail
            go_meet
            exact ⟨_, (st_w3.setA 0 (by omega) x x0 (by omega)).more (by omega)⟩
          · have t11 : (z == 11) = false := by simpa using h11
            by_cases h2 : z = 2 ∨ z = 7
            · have t27 : (z == 2) = true ∨ ((z == 2) = false ∧ (z == 7) = true) := by
                rcases h2 with h | h
                · left; simpa using h
                · right; subst h; exact ⟨rfl, rfl⟩
              clear h6 h11 h2
              rcases t27 with t2 | ⟨t2, t7⟩
              all_goals
                go_wp2_with fail
                refine (src_n _ base g (b + 1 + k) _ hst.src (by have := HB.out; omega) (by omega) (by omega)).mono ?_
                rintro e w3 ⟨x, rfl, x0, x1, hs, hg⟩
                have st_w3 := hst.step hs hg
                clear hs hg
                have q1 := st_w3.cb.1.cell 1
                have f1 := st_w3.cb.1.free 1
                go_wp2_with fail
                go_meet
                exact ⟨_, (st_w3.setA 0 (by omega) x x0 (by omega)).more (by omega)⟩
            · have t2 : (z == 2) = false := by simp; omega
              have t7 : (z == 7) = false := by simp; omega
              by_cases h20 : z = 20
              · have t20 : (z == 20) = true := by simpa using h20
                clear h6 h11 h2 h20
                go_wp2_with fail
                refine (src_range _ base g (b + 1 + k) _ _ hst.src (by have := HB.out; omega) (by omega) (by omega) (by omega)).mono ?_
                rintro e w3 ⟨x, rfl, x0, x1, hs, hg⟩
                have st_w3 := hst.step hs hg
                clear hs hg
                go_wp2_with fail
                refine (src_pick _ base g w3.heap.size (b + 1 + k + 1) 5 0 65 _ 3 (0, 0) (st_w3.src.alloc _) (by have := HB.out; omega) (heap_alloc_new w3 _) (by have := src_lt st_w3.src; omega) rfl (by omega) (by omega) rfl).mono ?_
                rintro e w4 ⟨y, rfl, y0, y1, hs, hg⟩
                have st_w4 := (st_w3.alloc (.cells #[.int .i64 9, .int .i64 0, .int .i64 64, .int .i64 65, .int .i64 9] 3)).step hs hg
                clear hs hg st_w3
                have q1 := st_w4.cb.1.cell 1
                have f1 := st_w4.cb.1.free 1
                have q2 := st_w4.cb.1.cell 2
                have f2 := st_w4.cb.1.free 2
                have q3 := st_w4.cb.1.cell 3
                have f3 := st_w4.cb.1.free 3
                have q4 := st_w4.cb.1.cell 4
                have f4 := st_w4.cb.1.free 4
                go_wp2_with fail
                go_meet
                exact ⟨_, ((((st_w4.setA 0 (by omega) x (by omega) (by omega)).setA 1 (by omega) y y0 (by omega)).setA 2 (by omega) 0 (by omega) (by omega)).setA 3 (by omega) 0 (by omega) (by omega)).more (by omega)⟩
              · have t20 : (z == 20) = false := by simpa using h20
                clear h6 h11 h2 h20
                go_wp2_with fail
                go_meet
                exact ⟨_, hst.more (by omega)⟩
      case rest =>
        obtain ⟨a2, hst2⟩ := hcut
        clear hst HST q0
        go_wp2_with fail
        go_loopw [9] (fun i wr => ∃ (k : Nat) (vp : Value) (ps : List ByteArray), k ≤ p ∧ i = .int .i64 (k : Int) ∧ ps.length = k ∧ (∀ s ∈ ps, s.size ≤ 60) ∧ OwnS wr (gc + 1) vp ps ∧ CSt w wr base g (b + 10 + 20 * k) rc gc z a2 vp (.slice none 0 0)) (fun i _ => p - (intOf i).toNat)
        case atStart => exact ⟨0, _, [], Nat.zero_le _, rfl, rfl, by simp, OwnS.nil _ _, hst2.more (by omega)⟩
        case round =>
          obtain ⟨j, vp, ps, hj, rfl, hlen, hsz, hown, hst⟩ := hrel
          have HLEN := Lib.hid hlen
          have HSZ := Lib.hid hsz
          clear hst2 hlen hsz
          by_cases hjp : j < p
          · have q5 : wr.cell? ⟨gc, 5, none⟩ = some vp := hst.cb.1.cell 5
            have hgc : gc < wr.heap.size := hst.cb.1.lt
            go_wp2_with fail
            go_region_law
              (first
                | (go_simp; go_at_call 33; refine (src_path _ base g (b + 10 + 20 * j) (by exact hst.src.drew) (by have := HB.out; omega)).mono ?_; rintro e w3 ⟨x, rfl, hxm, hs3, hg3⟩; have st3 := hst.drew.step hs3 hg3; have own3 := OwnS.only (w := wr.drew) hown hg3 (by have := hst.h1; have := hst.h2; have := hst.h3; omega); have qA : w3.cell? ⟨gc, 5, none⟩ = some vp := st3.cb.1.cell 5; have qC := (st3.alloc (.cells #[.string x] 9)).cb.1.cell 5; go_simp)
                | (refine step_append_strs (by rfl) (.tmp 75) (.tmp 78) (by rfl) (gc + 1) vp ps (by rfl) (by exact own3.alloc _) (w3.heap.size + 1) (some ⟨w3.heap.size, 0, none⟩) 1 1 [x] (by rfl) rfl (by exact one_at_new w3 x 9) (by have := HLEN.out; simp; omega) (by have := st3.cb.1.lt; simp; omega) ?_; intro v4 w4 own4 hg4 hat4; obtain ⟨g4, c4, hv4⟩ := Joins.ownsRow_form own4.out (by simp); subst hv4; have st4 := (st3.alloc (.cells #[.string x] 9)).grown hg4 (fun r hr => by have := own3.ge r hr; omega); have qB : w4.cell? ⟨gc, 5, none⟩ = some vp := st4.cb.1.cell 5; have fB := st4.cb.1.free 5))
            all_goals
              have own5 : OwnS w4 (gc + 1) (.slice (some ⟨g4, 0, none⟩) (ps.length + 1) c4) (ps ++ [x]) := by simpa using own4
              have st5 := st4.setP (.slice (some ⟨g4, 0, none⟩) (ps.length + 1) c4)
              have own6 := own5.setCell (p := ⟨gc, 5, none⟩) (by show gc < gc + 1; omega) (.slice (some ⟨g4, 0, none⟩) (ps.length + 1) c4)
              clear q5 qA qB qC fB own3 own4 own5 st3 st4 hown hst hg3 hs3 hg4 hat4
              go_wp2_with fail
              go_roundw
              case rel => exact ⟨j + 1, _, ps ++ [x], by omega, by go_num, by have := HLEN.out; simp; omega, fun s hs => by
                rcases List.mem_append.1 hs with h | h
                · exact HSZ.out s h
                · rw [List.mem_singleton.1 h]; exact hxm, own6, st5.more (by omega)⟩
              case measure => simp [intOf]; omega
          · go_wp2_with fail
            refine (src_range _ base g (b + 10 + 20 * j) _ _ hst.src (by have := HB.out; omega) (by omega) (by omega) (by omega)).mono ?_
            rintro e w5 ⟨n3, rfl, n0, n1, hs5, hg5⟩
            obtain ⟨n4, rfl⟩ := Int.eq_ofNat_of_zero_le (show 0 ≤ n3 by omega)
            have st5 := hst.step hs5 hg5
            have own5 := OwnS.only hown hg5 (by have := hst.h1; have := hst.h2; have := hst.h3; omega)
            clear hs5 hg5 hst hown
            go_wp2_with fail
            have hvp : ∀ r, vp.ownBlock = some r → r < w5.heap.size := fun r hr => (World.ownsRow.lt own5 r hr).2
            have HLP := Lib.hid (show ps.length ≤ 2 by have := HLEN.out; omega)
            have st6 := st5.more (b' := b + 60) (by omega)
            have hg5 : gc < w5.heap.size := st5.cb.1.lt
            clear HLEN st5
            go_loopw [10] (fun i wr => ∃ (k : Nat) (va : Value) (gs : List ByteArray), i = .int .i64 (k : Int) ∧ gs.length + k ≤ 4 ∧ (∀ s ∈ gs, s.size ≤ 4) ∧ OwnS wr w5.heap.size va gs ∧ OwnS wr (gc + 1) vp ps ∧ w5.heap.size ≤ wr.heap.size ∧ CSt w wr base g (b + 60 + gs.length) rc gc z a2 vp va) (fun i _ => (intOf i).toNat)
            case atStart => exact ⟨n4, _, [], rfl, by simp; omega, by simp, OwnS.nil _ _, own5, Nat.le_refl _, by simpa using st6⟩
            case round =>
              obtain ⟨i, va, gs, rfl, hlen, hsz, hown, hownp, hw5, hst⟩ := hrel
              have HSG := Lib.hid hsz
              clear st6 own5 hsz
              by_cases hi : 0 < i
              · have hi1 : (0 : Int) < (i : Int) := by omega
                have q6 : wr.cell? ⟨gc, 6, none⟩ = some va := hst.cb.1.cell 6
                have qW : (wr.alloc (.cells #[.string ⟨#[97]⟩, .string ⟨#[47, 97]⟩, .string ⟨#[98, 47, 99]⟩, .string ⟨#[104, 111, 115, 116]⟩, .string ⟨#[]⟩, .string ⟨#[46, 46, 47, 98]⟩, .string ⟨#[47]⟩, .string ⟨#[120, 32, 121]⟩] 9)).cell? ⟨gc, 6, none⟩ = some va := (hst.alloc _).cb.1.cell 6
                have hgc : gc < wr.heap.size := hst.cb.1.lt
                have hgl : g < wr.heap.size := src_lt hst.src
                go_wp2_with fail
                go_region_law
                  (first
                    | (go_simp; go_at_call 34; refine (src_word _ base g wr.heap.size (b + 60 + gs.length) 8 4 _ 9 (0, 0) (by exact (hst.src.alloc (.cells #[.string ⟨#[97]⟩, .string ⟨#[47, 97]⟩, .string ⟨#[98, 47, 99]⟩, .string ⟨#[104, 111, 115, 116]⟩, .string ⟨#[]⟩, .string ⟨#[46, 46, 47, 98]⟩, .string ⟨#[47]⟩, .string ⟨#[120, 32, 121]⟩] 9)).drew) (by have := HB.out; omega) (by exact heap_alloc_new wr (.cells #[.string ⟨#[97]⟩, .string ⟨#[47, 97]⟩, .string ⟨#[98, 47, 99]⟩, .string ⟨#[104, 111, 115, 116]⟩, .string ⟨#[]⟩, .string ⟨#[46, 46, 47, 98]⟩, .string ⟨#[47]⟩, .string ⟨#[120, 32, 121]⟩] 9)) (by omega) rfl (by omega) (by omega) rfl).mono ?_; rintro e w3 ⟨x, rfl, hxm, hs3, hg3⟩; have st3 := (hst.alloc (.cells #[.string ⟨#[97]⟩, .string ⟨#[47, 97]⟩, .string ⟨#[98, 47, 99]⟩, .string ⟨#[104, 111, 115, 116]⟩, .string ⟨#[]⟩, .string ⟨#[46, 46, 47, 98]⟩, .string ⟨#[47]⟩, .string ⟨#[120, 32, 121]⟩] 9)).drew.step hs3 hg3; have own3 := OwnS.only (w := (wr.alloc (.cells #[.string ⟨#[97]⟩, .string ⟨#[47, 97]⟩, .string ⟨#[98, 47, 99]⟩, .string ⟨#[104, 111, 115, 116]⟩, .string ⟨#[]⟩, .string ⟨#[46, 46, 47, 98]⟩, .string ⟨#[47]⟩, .string ⟨#[120, 32, 121]⟩] 9)).drew) (hown.alloc _) hg3 (by have := hst.h1; have := hst.h2; have := hst.h3; omega); have ownp3 := OwnS.only (w := (wr.alloc (.cells #[.string ⟨#[97]⟩, .string ⟨#[47, 97]⟩, .string ⟨#[98, 47, 99]⟩, .string ⟨#[104, 111, 115, 116]⟩, .string ⟨#[]⟩, .string ⟨#[46, 46, 47, 98]⟩, .string ⟨#[47]⟩, .string ⟨#[120, 32, 121]⟩] 9)).drew) (hownp.alloc _) hg3 (by have := hst.h1; have := hst.h2; have := hst.h3; omega); have qA : w3.cell? ⟨gc, 6, none⟩ = some va := st3.cb.1.cell 6; have qC := (st3.alloc (.cells #[.string x] 9)).cb.1.cell 6; go_simp)
                    | (refine step_append_strs (by rfl) (.tmp 90) (.tmp 94) (by rfl) w5.heap.size va gs (by rfl) (by exact own3.alloc _) (w3.heap.size + 1) (some ⟨w3.heap.size, 0, none⟩) 1 1 [x] (by rfl) rfl (by exact one_at_new w3 x 9) (by simp; omega) (by have h3 := hg3.size; simp at h3 ⊢; omega) ?_; intro v4 w4 own4 hg4 hat4; obtain ⟨g4, c4, hv4⟩ := Joins.ownsRow_form own4.out (by simp); subst hv4; have st4 := (st3.alloc (.cells #[.string x] 9)).grown hg4 (fun r hr => by have := own3.ge r hr; omega); have ownp4 := (ownp3.alloc (.cells #[.string x] 9)).far hg4 (fun r hr e => by have := hvp r hr; have := own3.ge r e; omega); have qB : w4.cell? ⟨gc, 6, none⟩ = some va := st4.cb.1.cell 6; have fB := st4.cb.1.free 6))
                all_goals
                  have own5 : OwnS w4 w5.heap.size (.slice (some ⟨g4, 0, none⟩) (gs.length + 1) c4) (gs ++ [x]) := by simpa using own4
                  have st5 := st4.setG (.slice (some ⟨g4, 0, none⟩) (gs.length + 1) c4)
                  have own6 := own5.setCell (p := ⟨gc, 6, none⟩) (by show gc < w5.heap.size; omega) (.slice (some ⟨g4, 0, none⟩) (gs.length + 1) c4)
                  have ownp6 := ownp4.setCell (p := ⟨gc, 6, none⟩) (by show gc < gc + 1; omega) (.slice (some ⟨g4, 0, none⟩) (gs.length + 1) c4)
                  have hw6 : w5.heap.size ≤ (w4.setCell ⟨gc, 6, none⟩ (.slice (some ⟨g4, 0, none⟩) (gs.length + 1) c4)).heap.size := by
                    have h3 := hg3.size
                    have h4 := hg4.size
                    simp at h3 h4 ⊢
                    omega
                  clear q6 qW qA qB qC fB own3 own4 own5 ownp3 ownp4 st3 st4 hown hownp hst hg3 hs3 hg4 hat4
                  go_wp2_with fail
                  go_roundw
                  case rel => exact ⟨i - 1, _, gs ++ [x], by go_num, by simp; omega, fun s hs => by
                    rcases List.mem_append.1 hs with h | h
                    · exact HSG.out s h
                    · rw [List.mem_singleton.1 h]; exact hxm, own6, ownp6, hw6, st5.more (by simp; omega)⟩
                  case measure => simp [intOf]; omega
              · go_wp2_with fail
                refine (src_n _ base g (b + 60 + gs.length) _ hst.src (by have := HB.out; omega) (by omega) (by omega)).mono ?_
                rintro e w6 ⟨x, rfl, x0, x1, hs6, hg6⟩
                have st6 := hst.step hs6 hg6
                have own6 := OwnS.only hown hg6 (by have := hst.h1; have := hst.h2; have := hst.h3; omega)
                have ownp6 := OwnS.only hownp hg6 (by have := hst.h1; have := hst.h2; have := hst.h3; omega)
                clear hs6 hg6 hst hown hownp
                obtain ⟨Ap, np, cp, rfl⟩ := slice_form ownp6
                obtain ⟨Ag, ng, cg, rfl⟩ := slice_form own6
                go_upto_if 99 with (fail)
                go_cut [] (fun wx => ∃ (z3 : Int) (a3 : Nat → Int), -1 ≤ z3 ∧ z3 ≤ 33 ∧ OwnS wx w5.heap.size (.slice Ag ng cg) gs ∧ OwnS wx (gc + 1) (.slice Ap np cp) ps ∧ CSt w wx base g (b + 100) rc gc z3 a3 (.slice Ap np cp) (.slice Ag ng cg))
                case first =>
                  by_cases h39 : x = 39
                  · have t39 : (x == 39) = true := by simpa using h39
                    clear h39
                    go_wp2_with fail
                    refine (src_n _ base g (b + 60 + gs.length + 1) _ st6.src (by have := HB.out; omega) (by omega) (by omega)).mono ?_
                    rintro e w7 ⟨y, rfl, y0, y1, hs7, hg7⟩
                    have st7 := st6.step hs7 hg7
                    have own7 := OwnS.only own6 hg7 (by have := st6.h1; have := st6.h2; have := st6.h3; omega)
                    have ownp7 := OwnS.only ownp6 hg7 (by have := st6.h1; have := st6.h2; have := st6.h3; omega)
                    clear hs7 hg7 st6 own6 ownp6
                    go_wp2_with fail
                    refine (src_range _ base g (b + 60 + gs.length + 1 + 1) _ _ st7.src (by have := HB.out; omega) (by omega) (by omega) (by omega)).mono ?_
                    rintro e w8 ⟨z2, rfl, z20, z21, hs8, hg8⟩
                    have st8 := st7.step hs8 hg8
                    have own8 := OwnS.only own7 hg8 (by have := st7.h1; have := st7.h2; have := st7.h3; omega)
                    have ownp8 := OwnS.only ownp7 hg8 (by have := st7.h1; have := st7.h2; have := st7.h3; omega)
                    clear hs8 hg8 st7 own7 ownp7
                    have stE := (st8.setA 3 (by omega) y y0 (by omega)).setZ z2
                    have ownE := (own8.setCell (p := ⟨gc, 1 + 3, none⟩) (by show gc < w5.heap.size; omega) (.int .i64 y)).setCell (p := ⟨gc, 0, none⟩) (by show gc < w5.heap.size; omega) (.int .i64 z2)
                    have ownpE := (ownp8.setCell (p := ⟨gc, 1 + 3, none⟩) (by show gc < gc + 1; omega) (.int .i64 y)).setCell (p := ⟨gc, 0, none⟩) (by show gc < gc + 1; omega) (.int .i64 z2)
                    have d0 := st8.cb.1.cell 0
                    have e0 := st8.cb.1.free 0
                    have d4 := st8.cb.1.cell 4
                    have e4 := st8.cb.1.free 4
                    clear st8 own8 ownp8
                    go_wp2_with fail
                    go_meet
                    exact ⟨z2, _, by omega, by omega, ownE, ownpE, stE.more (by omega)⟩
                  · have t39 : (x == 39) = false := by simpa using h39
                    clear h39
                    go_wp2_with fail
                    go_meet
                    exact ⟨z, _, by omega, by omega, own6, ownp6, st6.more (by omega)⟩
                case rest =>
                  obtain ⟨z3, a3, hz30, hz31, ownF, ownpF, stF⟩ := hcut
                  clear st6 own6 ownp6
                  have r0 := stF.rb.cell 0
                  have fr0 := stF.rb.free 0
                  have c0 := stF.cb.1.cell 0
                  have r1 := stF.rb.cell 1
                  have fr1 := stF.rb.free 1
                  have c1 := stF.cb.1.cell 1
                  have r2 := stF.rb.cell 2
                  have fr2 := stF.rb.free 2
                  have c2 := stF.cb.1.cell 2
                  have r3 := stF.rb.cell 3
                  have fr3 := stF.rb.free 3
                  have c3 := stF.cb.1.cell 3
                  have r4 := stF.rb.cell 4
                  have fr4 := stF.rb.free 4
                  have c4 := stF.cb.1.cell 4
                  have r5 := stF.rb.cell 5
                  have fr5 := stF.rb.free 5
                  have c5 := stF.cb.1.cell 5
                  have r6 := stF.rb.cell 6
                  have fr6 := stF.rb.free 6
                  have c6 := stF.cb.1.cell 6
                  go_wp2_with fail
                  refine bodyPost_ret (call_ret Tryd.func13 rfl _ _ rc _ rfl (((((((stF.rb.put 0 (.int .i64 z3)).put 1 (.int .i64 (a3 0))).put 2 (.int .i64 (a3 1))).put 3 (.int .i64 (a3 2))).put 4 (.int .i64 (a3 3))).put 5 (.slice Ap np cp)).put 6 (.slice Ag ng cg)) rfl) rfl ?_
                  exact ⟨z3, a3, _, _, ps, gs, rfl, by omega, stF.cb.2, HLP.out, by omega, HSZ.out, HSG.out, (((((((ownpF.setCell (p := ⟨rc, 0, none⟩) (by show rc < gc + 1; omega) (.int .i64 z3)).setCell (p := ⟨rc, 1, none⟩) (by show rc < gc + 1; omega) (.int .i64 (a3 0))).setCell (p := ⟨rc, 2, none⟩) (by show rc < gc + 1; omega) (.int .i64 (a3 1))).setCell (p := ⟨rc, 3, none⟩) (by show rc < gc + 1; omega) (.int .i64 (a3 2))).setCell (p := ⟨rc, 4, none⟩) (by show rc < gc + 1; omega) (.int .i64 (a3 3))).setCell (p := ⟨rc, 5, none⟩) (by show rc < gc + 1; omega) (.slice Ap np cp)).setCell (p := ⟨rc, 6, none⟩) (by show rc < gc + 1; omega) (.slice Ag ng cg)).mono (by have := stF.h1; have := stF.h2; omega), (((((((ownF.setCell (p := ⟨rc, 0, none⟩) (by show rc < w5.heap.size; omega) (.int .i64 z3)).setCell (p := ⟨rc, 1, none⟩) (by show rc < w5.heap.size; omega) (.int .i64 (a3 0))).setCell (p := ⟨rc, 2, none⟩) (by show rc < w5.heap.size; omega) (.int .i64 (a3 1))).setCell (p := ⟨rc, 3, none⟩) (by show rc < w5.heap.size; omega) (.int .i64 (a3 2))).setCell (p := ⟨rc, 4, none⟩) (by show rc < w5.heap.size; omega) (.int .i64 (a3 3))).setCell (p := ⟨rc, 5, none⟩) (by show rc < w5.heap.size; omega) (.slice Ap np cp)).setCell (p := ⟨rc, 6, none⟩) (by show rc < w5.heap.size; omega) (.slice Ag ng cg)).mono (by have := stF.h1; have := stF.h2; omega), (((((((stF.src.setCell (p := ⟨rc, 0, none⟩) (by show base ≤ rc; omega) (by show rc ≠ g; omega) (.int .i64 z3)).setCell (p := ⟨rc, 1, none⟩) (by show base ≤ rc; omega) (by show rc ≠ g; omega) (.int .i64 (a3 0))).setCell (p := ⟨rc, 2, none⟩) (by show base ≤ rc; omega) (by show rc ≠ g; omega) (.int .i64 (a3 1))).setCell (p := ⟨rc, 3, none⟩) (by show base ≤ rc; omega) (by show rc ≠ g; omega) (.int .i64 (a3 2))).setCell (p := ⟨rc, 4, none⟩) (by show base ≤ rc; omega) (by show rc ≠ g; omega) (.int .i64 (a3 3))).setCell (p := ⟨rc, 5, none⟩) (by show base ≤ rc; omega) (by show rc ≠ g; omega) (.slice Ap np cp)).setCell (p := ⟨rc, 6, none⟩) (by show base ≤ rc; omega) (by show rc ≠ g; omega) (.slice Ag ng cg)).more (by omega), (only_setCell (only_setCell (only_setCell (only_setCell (only_setCell (only_setCell (only_setCell stF.only (p := ⟨rc, 0, none⟩) (.inr stF.h1) (.int .i64 z3)) (p := ⟨rc, 1, none⟩) (.inr stF.h1) (.int .i64 (a3 0))) (p := ⟨rc, 2, none⟩) (.inr stF.h1) (.int .i64 (a3 1))) (p := ⟨rc, 3, none⟩) (.inr stF.h1) (.int .i64 (a3 2))) (p := ⟨rc, 4, none⟩) (.inr stF.h1) (.int .i64 (a3 3))) (p := ⟨rc, 5, none⟩) (.inr stF.h1) (.slice Ap np cp)) (p := ⟨rc, 6, none⟩) (.inr stF.h1) (.slice Ag ng cg))⟩
end Go.Proofs.YtokkbboahajbhaaDoor
/- Copy of the reference. -/
namespace Go.Proofs.YtokkbboahajbhaaDoor
open Go.RowKit
/-- A call whose lists are its own, in different blocks. -/
def CopyPost (z : Int) (a : Nat → Int) (ps gs : List ByteArray) (w : World) (e : Ending) (w' : World) : Prop := ∃ vp va : Value, e = .returned (.agg #[.int .i64 z, .int .i64 (a 0), .int .i64 (a 1), .int .i64 (a 2), .int .i64 (a 3), vp, va]) ∧ OwnS w' w.heap.size vp ps ∧ OwnS w' w.heap.size va gs ∧ (∀ r, vp.ownBlock = some r → va.ownBlock ≠ some r) ∧ Below w.heap.size w w'
theorem Blk.grown2 {w w' : World} {g : Nat} {t : TypeId} {cs : Array Value} (h : Blk w g t cs) {row : Option Nat} (hg : w.grownBy w' row) (hr : ∀ r, row = some r → g < r) : Blk w' g t cs := h.grown hg (fun e => by have := hr g e; omega)
set_option maxRecDepth 100000 in
set_option maxHeartbeats 4000000 in
theorem rcopy (z : Int) (a : Nat → Int) (P : Option Addr) (cp : Nat) (A : Option Addr) (ca : Nat) (ps gs : List ByteArray) (w : World) (B : Nat) (hB : B ≤ w.heap.size) (hP : StrsAt w B P ps) (hA : StrsAt w B A gs) (l1 : ps.length ≤ 1000) (l2 : gs.length ≤ 1000) :
    Calls Tryd.prog 14 #[callV z a P ps.length cp A gs.length ca] w (CopyPost z a ps gs w) := by
  have hal : Below w.heap.size w ((w.alloc (callO z a P ps.length cp A gs.length ca)).alloc (.cells zeroC 25)) := ((Below.refl _ _).alloc (Nat.le_refl _) _).alloc (by simp) _
  have G0 : Blk ((w.alloc (callO z a P ps.length cp A gs.length ca)).alloc (.cells zeroC 25)) w.heap.size 25 #[.int .i64 z, .int .i64 (a 0), .int .i64 (a 1), .int .i64 (a 2), .int .i64 (a 3), .slice P ps.length cp, .slice A gs.length ca] := (Blk.new w _ _).alloc _
  have R0 : Blk ((w.alloc (callO z a P ps.length cp A gs.length ca)).alloc (.cells zeroC 25)) (w.heap.size + 1) 25 zeroC := by
    have := Blk.new (w.alloc (callO z a P ps.length cp A gs.length ca)) zeroC 25
    simpa using this
  have hs0 : ((w.alloc (callO z a P ps.length cp A gs.length ca)).alloc (.cells zeroC 25)).heap.size = w.heap.size + 2 := by simp
  have HS0 := Lib.hid hs0
  have HP := Lib.hid (hP.keep hal hB)
  have HA := Lib.hid (hA.keep hal hB)
  have hle0 : w.heap.size + 2 ≤ ((w.alloc (callO z a P ps.length cp A gs.length ca)).alloc (.cells zeroC 25)).heap.size := by omega
  clear hP hA hs0
  go_enter Tryd.func14, Tryd.ntmps14
  go_wp2_with (first
    | (at_builtin; refine wpList_append_strs rfl (.const (.slice none 0 0)) (.tmp 4) rfl (w.heap.size + 2) (.slice none 0 0) [] rfl (OwnS.nil _ _) B P ps.length cp ps rfl rfl HP.out (by simp; omega) hle0 ?_; intro v1 w1 ho1 hg1 hat1; obtain ⟨A1, c1, hv1, hS1⟩ := ho1.strs; subst hv1; have G1 := G0.grown2 hg1 (fun r hr => by cases hr); have R1 := R0.grown2 hg1 (fun r hr => by cases hr); have q5 := G1.cell 5; have f5 := G1.free 5; have q6 := G1.cell 6; have HO1 := Lib.hid ho1; have HG1 := Lib.hid hg1; clear ho1 hg1 hat1 hS1)
    | (at_builtin; refine wpList_append_strs rfl (.const (.slice none 0 0)) (.tmp 8) rfl (w.heap.size + 2) (.slice none 0 0) [] rfl (OwnS.nil _ _) B A gs.length ca gs rfl rfl ?_ (by simp; omega) ?_ ?_; exact (HA.out.grown HG1.out (by omega) (fun r hr => by cases hr)).setCell (p := ⟨w.heap.size, 5, none⟩) hB _; (have := HG1.out.size; simp at this ⊢; omega); intro v2 w2 ho2 hg2 hat2; obtain ⟨A2, c2, hv2, hS2⟩ := ho2.strs; subst hv2; have G2 := (G1.put 5 (.slice A1 ps.length c1)).grown2 hg2 (fun r hr => by cases hr); have R2 := (R1.put_other (p := ⟨w.heap.size, 5, none⟩) (.slice A1 ps.length c1) (by show w.heap.size + 1 ≠ w.heap.size; omega)).grown2 hg2 (fun r hr => by cases hr); have d0 := G2.cell 0; have d1 := G2.cell 1; have d2 := G2.cell 2; have d3 := G2.cell 3; have d4 := G2.cell 4; have d5 := G2.cell 5; have d6 := G2.cell 6; have e6 := G2.free 6; have r0 := R2.cell 0; have s0 := R2.free 0; have r1 := R2.cell 1; have s1 := R2.free 1; have r2 := R2.cell 2; have s2 := R2.free 2; have r3 := R2.cell 3; have s3 := R2.free 3; have r4 := R2.cell 4; have s4 := R2.free 4; have r5 := R2.cell 5; have s5 := R2.free 5; have r6 := R2.cell 6; have s6 := R2.free 6; have HO2 := Lib.hid ho2; have HG2 := Lib.hid hg2; clear q5 q6 f5; have HAT2 := Lib.hid hat2; clear ho2 hg2 hat2 hS2))
  have R3 := R2.put_other (p := ⟨w.heap.size, 6, none⟩) (.slice A2 gs.length c2) (by show w.heap.size + 1 ≠ w.heap.size; omega)
  have o1 : OwnS w1 (w.heap.size + 2) (.slice A1 ps.length c1) ps := HO1.out
  have o1a := OwnS.far (v2 := .slice none 0 0) (o1.setCell (p := ⟨w.heap.size, 5, none⟩) (by show w.heap.size < w.heap.size + 2; omega) (.slice A1 ps.length c1)) HG2.out (fun r _ => by intro h; cases h)
  have o1b := o1a.setCell (p := ⟨w.heap.size, 6, none⟩) (by show w.heap.size < w.heap.size + 2; omega) (.slice A2 gs.length c2)
  have o2 : OwnS w2 (w.heap.size + 2) (.slice A2 gs.length c2) gs := HO2.out
  have o2a := o2.setCell (p := ⟨w.heap.size, 6, none⟩) (by show w.heap.size < w.heap.size + 2; omega) (.slice A2 gs.length c2)
  have b1 : Below w.heap.size w w1 := hal.grown HG1.out (by omega) (fun k hk => by cases hk)
  have b1s := b1.setCell (p := ⟨w.heap.size, 5, none⟩) (Nat.le_refl _) (.slice A1 ps.length c1)
  have b2 := (b1s.grown HG2.out (by have := b1.size; simp; omega) (fun k hk => by cases hk)).setCell (p := ⟨w.heap.size, 6, none⟩) (Nat.le_refl _) (.slice A2 gs.length c2)
  refine bodyPost_ret (call_ret Tryd.func14 rfl _ _ (w.heap.size + 1) _ rfl (((((((R3.put 0 (.int .i64 z)).put 1 (.int .i64 (a 0))).put 2 (.int .i64 (a 1))).put 3 (.int .i64 (a 2))).put 4 (.int .i64 (a 3))).put 5 (.slice A1 ps.length c1)).put 6 (.slice A2 gs.length c2)) rfl) rfl ?_
  refine ⟨.slice A1 ps.length c1, .slice A2 gs.length c2, rfl, (((((((o1b.setCell (p := ⟨w.heap.size + 1, 0, none⟩) (by show w.heap.size + 1 < w.heap.size + 2; omega) (.int .i64 z)).setCell (p := ⟨w.heap.size + 1, 1, none⟩) (by show w.heap.size + 1 < w.heap.size + 2; omega) (.int .i64 (a 0))).setCell (p := ⟨w.heap.size + 1, 2, none⟩) (by show w.heap.size + 1 < w.heap.size + 2; omega) (.int .i64 (a 1))).setCell (p := ⟨w.heap.size + 1, 3, none⟩) (by show w.heap.size + 1 < w.heap.size + 2; omega) (.int .i64 (a 2))).setCell (p := ⟨w.heap.size + 1, 4, none⟩) (by show w.heap.size + 1 < w.heap.size + 2; omega) (.int .i64 (a 3))).setCell (p := ⟨w.heap.size + 1, 5, none⟩) (by show w.heap.size + 1 < w.heap.size + 2; omega) (.slice A1 ps.length c1)).setCell (p := ⟨w.heap.size + 1, 6, none⟩) (by show w.heap.size + 1 < w.heap.size + 2; omega) (.slice A2 gs.length c2)).mono (by omega), (((((((o2a.setCell (p := ⟨w.heap.size + 1, 0, none⟩) (by show w.heap.size + 1 < w.heap.size + 2; omega) (.int .i64 z)).setCell (p := ⟨w.heap.size + 1, 1, none⟩) (by show w.heap.size + 1 < w.heap.size + 2; omega) (.int .i64 (a 0))).setCell (p := ⟨w.heap.size + 1, 2, none⟩) (by show w.heap.size + 1 < w.heap.size + 2; omega) (.int .i64 (a 1))).setCell (p := ⟨w.heap.size + 1, 3, none⟩) (by show w.heap.size + 1 < w.heap.size + 2; omega) (.int .i64 (a 2))).setCell (p := ⟨w.heap.size + 1, 4, none⟩) (by show w.heap.size + 1 < w.heap.size + 2; omega) (.int .i64 (a 3))).setCell (p := ⟨w.heap.size + 1, 5, none⟩) (by show w.heap.size + 1 < w.heap.size + 2; omega) (.slice A1 ps.length c1)).setCell (p := ⟨w.heap.size + 1, 6, none⟩) (by show w.heap.size + 1 < w.heap.size + 2; omega) (.slice A2 gs.length c2)).mono (by omega), fun r hr e => ?_, (((((((b2.setCell (p := ⟨w.heap.size + 1, 0, none⟩) (by show w.heap.size ≤ w.heap.size + 1; omega) (.int .i64 z)).setCell (p := ⟨w.heap.size + 1, 1, none⟩) (by show w.heap.size ≤ w.heap.size + 1; omega) (.int .i64 (a 0))).setCell (p := ⟨w.heap.size + 1, 2, none⟩) (by show w.heap.size ≤ w.heap.size + 1; omega) (.int .i64 (a 1))).setCell (p := ⟨w.heap.size + 1, 3, none⟩) (by show w.heap.size ≤ w.heap.size + 1; omega) (.int .i64 (a 2))).setCell (p := ⟨w.heap.size + 1, 4, none⟩) (by show w.heap.size ≤ w.heap.size + 1; omega) (.int .i64 (a 3))).setCell (p := ⟨w.heap.size + 1, 5, none⟩) (by show w.heap.size ≤ w.heap.size + 1; omega) (.slice A1 ps.length c1)).setCell (p := ⟨w.heap.size + 1, 6, none⟩) (by show w.heap.size ≤ w.heap.size + 1; omega) (.slice A2 gs.length c2))⟩
  have hlt := (World.ownsRow.lt o1 r hr).2
  rcases HAT2.out with h | h
  · have h' : (Value.slice A2 gs.length c2).ownBlock = none := h
    rw [h'] at e; cases e
  · have h' : (Value.slice A2 gs.length c2).ownBlock = some (w1.setCell ⟨w.heap.size, 5, none⟩ (.slice A1 ps.length c1)).heap.size := h
    rw [h'] at e
    injection e with e
    simp at e
    omega
end Go.Proofs.YtokkbboahajbhaaDoor
/- reads, and the walks of the laws CallParses and CallBack. -/
namespace Go.Proofs.YtokkbboahajbhaaDoor
open Go.RowKit
theorem callE_sizes {z : Int} {a : Nat → Int} {ps gs : List ByteArray} (h : callE z a ps gs = 0) : ps.length ≤ 1000 ∧ gs.length ≤ 1000 := by
  obtain ⟨c1, c2, c3, c4, c5, c6⟩ := callE_zero h
  have := rowI_small z
  omega
theorem CIs.lens {s : ByteArray} {z : Int} {a : Nat → Int} {ps gs : List ByteArray} {er : Int} (h : CIs s z a ps gs er) : ps.length ≤ 1000 ∧ gs.length ≤ 1000 := by
  rcases h with ⟨_, h, _⟩ | ⟨_, _, _, rfl, rfl, _⟩
  · exact callE_sizes h
  · simp
attribute [local irreducible] rowI rowC numC numS unqS unqE callS callE rdN
set_option maxRecDepth 100000 in
set_option maxHeartbeats 8000000 in
theorem reads10 (s : ByteArray) (hs : s.size ≤ 100000) (w : World) (he : Env w) (hc : Calls10 w) :
    Calls Tryd.prog 25 #[.string s] w fun e w' => e = .returned (.bool true) ∧ Below w.heap.size w w' := by
  have HV := Lib.hid (vparse10 s hs w he hc)
  clear he hc
  go_enter Tryd.func25, Tryd.ntmps25
  go_wp2_with fail
  refine HV.out.mono ?_
  rintro e w1 ⟨z, a, vp, va, ps, gs, er, rfl, hC, hop, hog, hb1⟩
  obtain ⟨P, cp, e1, hP⟩ := hop.strs
  obtain ⟨A, ca, e2, hA⟩ := hog.strs
  subst e1 e2
  have HC := Lib.hid hC
  have HP := Lib.hid hP
  have HA := Lib.hid hA
  clear HV hC hop hog hP hA
  go_wp2_with fail
  have hal1 : Below w1.heap.size w1 (w1.alloc (.cells (cellsCall z a (.slice P ps.length cp) (.slice A gs.length ca)) 25)) := (Below.refl _ _).alloc (Nat.le_refl _) _
  have C1 := Blk.new w1 (cellsCall z a (.slice P ps.length cp) (.slice A gs.length ca)) 25
  refine (rparse10 s hs _).mono ?_
  rintro e w3 ⟨z', a', vp', va', ps', gs', er', rfl, hC', hop', hog', hb3⟩
  obtain ⟨P', cp', e1, hP'⟩ := hop'.strs
  obtain ⟨A', ca', e2, hA'⟩ := hog'.strs
  subst e1 e2
  obtain ⟨e5, heq⟩ := HC.out.unique hC'
  subst e5
  have l1 := HC.out.lens
  have l2 := hC'.lens
  have HEQ := Lib.hid heq
  have b3 := below_then hal1 hb3
  have hal3 : Below w3.heap.size w3 (w3.alloc (.cells (cellsCall z' a' (.slice P' ps'.length cp') (.slice A' gs'.length ca')) 25)) := (Below.refl _ _).alloc (Nat.le_refl _) _
  have b4 := below_then b3 hal3
  have C4 := (C1.below hb3).below hal3
  have D4 := Blk.new w3 (cellsCall z' a' (.slice P' ps'.length cp') (.slice A' gs'.length ca')) 25
  have HSM := Lib.hid (rsameC z z' a a' P P' cp cp' A A' ca ca' ps gs ps' gs' (w3.alloc (.cells (cellsCall z' a' (.slice P' ps'.length cp') (.slice A' gs'.length ca')) 25)) (w3.alloc (.cells (cellsCall z' a' (.slice P' ps'.length cp') (.slice A' gs'.length ca')) 25)).heap.size (Nat.le_refl _) ((HP.out.keep b4 (Nat.le_refl _)).more b4.size) ((HA.out.keep b4 (Nat.le_refl _)).more b4.size) ((hP'.keep hal3 (Nat.le_refl _)).more hal3.size) ((hA'.keep hal3 (Nat.le_refl _)).more hal3.size) l1.1 l1.2 l2.1 l2.2)
  clear hC' hop' hog' hP' hA' heq C1 hal1 hb3 b3 hal3 l1 l2
  have q0 := C4.cell 0
  have q1 := C4.cell 1
  have q2 := C4.cell 2
  have q3 := C4.cell 3
  have q4 := C4.cell 4
  have q5 := C4.cell 5
  have q6 := C4.cell 6
  have r0 := D4.cell 0
  have r1 := D4.cell 1
  have r2 := D4.cell 2
  have r3 := D4.cell 3
  have r4 := D4.cell 4
  have r5 := D4.cell 5
  have r6 := D4.cell 6
  go_wp2_with fail
  refine HSM.out.mono ?_
  rintro e w5 ⟨r, rfl, hr, hb5⟩
  obtain rfl : r = true := hr.2 HEQ.out
  clear hr
  go_wp2_with fail
  go_ret
  exact ⟨rfl, below_then (below_then hb1 b4) hb5⟩
set_option maxRecDepth 100000 in
set_option maxHeartbeats 8000000 in
theorem callParses_walk (s : ByteArray) (n : Int) (w : World) (hs : s.size ≤ maxLen) (hn : 0 ≤ n ∧ n ≤ 255) (he : Env w) (hc : Calls10 w) :
    Calls Tryd.prog 6 #[.string s, .int .u8 n] w fun e w' => e = .returned (.bool true) ∧ Below w.heap.size w w' := by
  have HE := Lib.hid (fun (W : World) (h : Below w.heap.size w W) => he.below h)
  have HC := Lib.hid (fun (W : World) (h : Below w.heap.size w W) => hc.below h (Nat.le_refl _))
  have HA := Lib.hid (fun (W : World) (h : Below w.heap.size w W) => awake10 W (HC.out _ h) (HE.out _ h).tab (HE.out _ h).pow)
  clear he hc
  unfold maxLen at hs
  obtain ⟨hn0, hn1⟩ := hn
  by_cases h1 : s.size ≤ 500
  · clear hs
    go_enter Tryd.func6, Tryd.ntmps6
    go_wp2_with fail
    refine (reads10 s (by omega) w (HE.out _ (Below.refl _ _)) (HC.out _ (Below.refl _ _))).mono ?_
    rintro e w1 ⟨rfl, hb1⟩
    go_wp2_with fail
    refine (rname _ _).mono ?_
    rintro e w2 ⟨rfl, hb2⟩
    have b2 := below_then hb1 hb2
    have hz := (rowI_small (n % 22)).2.2.2.2
    clear hb1 hb2
    generalize (rowI (n % 22)).name = nm at *
    go_wp2_with fail
    refine (reads10 _ (by rw [ByteArray.size_append, ByteArray.size_append]; show nm.size + 1 + s.size ≤ 100000; omega) _ (HE.out _ b2) (HC.out _ b2)).mono ?_
    rintro e w3 ⟨rfl, hb3⟩
    have b3 := below_then b2 hb3
    go_wp2_with fail
    refine (HA.out _ b3).mono ?_
    rintro e w4 ⟨rfl, hb4⟩
    go_wp2_with fail
    go_ret
    exact ⟨rfl, below_then b3 hb4⟩
  · go_enter Tryd.func6, Tryd.ntmps6
    go_wp2_with fail
    refine (HA.out _ (Below.refl _ _)).mono ?_
    rintro e w3 ⟨rfl, hb3⟩
    go_wp2_with fail
    go_ret
    exact ⟨rfl, hb3⟩
end Go.Proofs.YtokkbboahajbhaaDoor
/- Listed variables: arrays of strings, arrays of rows. -/
namespace Go.Proofs.YtokkbboahajbhaaDoor
open Go.ChangeShapes Go.WideShapes Go.RowKit Go.Joins Go.Deep
theorem chunks {α : Type} {c : Nat} : ∀ {L : List (List α)} {cs : List α}, cs.length = L.length * c → (∀ i (hi : i < L.length), (cs.drop (i * c)).take c = L[i]) → cs = L.flatten
  | [], cs, h, _ => by simp at h; simp [h]
  | x :: L, cs, h, hi => by
    have h0 := hi 0 (by simp)
    simp at h0
    have hr : cs.drop c = L.flatten := chunks (c := c) (by rw [List.length_drop, h, List.length_cons, Nat.add_mul]; omega) (fun i hlt => by
      have := hi (i + 1) (by simp; omega)
      rw [List.drop_drop, show c + i * c = (i + 1) * c by rw [Nat.add_mul]; omega]
      simpa using this)
    rw [List.flatten_cons, ← hr, ← h0, List.take_append_drop]
section
variable {H : Type} {enc : TypeId × Value → H} {P : Program} {w : World} {base : Nat} {sp : Nat → Bool} {held : Bool}
theorem one_at {cs : List Value} {j : Nat} {v : Value} (h : (cs.drop j).take 1 = [v]) : cs[j]? = some v := by
  have := congrArg (·[0]?) h
  simpa [List.getElem?_take, List.getElem?_drop] using this
/-- A struct of a string and four integers, out of its datum. -/
theorem row5_cells {fuel : Nat} {t : TypeId} {f0 f1 f2 f3 f4 : Field} {k : IntKind} {cs : List Value} {l : List UInt8} {a b c d : Int} {p : List MemPlace} (hs : P.underlying t = some (.struct #[f0, f1, f2, f3, f4])) (hone : oneCellFields P #[f0, f1, f2, f3, f4] = true) (hC : P.cellsOf t = 5)
    (h0 : P.underlying f0.type = some .string) (h1 : P.underlying f1.type = some (.int k)) (h2 : P.underlying f2.type = some (.int k)) (h3 : P.underlying f3.type = some (.int k)) (h4 : P.underlying f4.type = some (.int k))
    (h : DataW.trod enc P w base sp held fuel t cs = some (.agg [.lit (.string l), .lit (.int k a), .lit (.int k b), .lit (.int k c), .lit (.int k d)], p)) : cs = [.string ⟨l.toArray⟩, .int k a, .int k b, .int k c, .int k d] := by
  obtain ⟨xs, n, _, hx, hl, hlen, hg⟩ := DataW.trod_struct hs h
  obtain ⟨o0, k0⟩ := hone_of hone 0 f0 rfl
  obtain ⟨o1, k1⟩ := hone_of hone 1 f1 rfl
  obtain ⟨o2, k2⟩ := hone_of hone 2 f2 rfl
  obtain ⟨o3, k3⟩ := hone_of hone 3 f3 rfl
  obtain ⟨o4, k4⟩ := hone_of hone 4 f4 rfl
  match xs, hlen with
  | [y0, y1, y2, y3, y4], _ =>
    simp only [Prod.mk.injEq] at hx
    have hx1 := hx.1
    simp at hx1
    obtain ⟨e0, e1, e2, e3, e4⟩ := hx1
    have g0 := hg 0 f0 rfl
    have g1 := hg 1 f1 rfl
    have g2 := hg 2 f2 rfl
    have g3 := hg 3 f3 rfl
    have g4 := hg 4 f4 rfl
    rw [o0, k0] at g0
    rw [o1, k1] at g1
    rw [o2, k2] at g2
    rw [o3, k3] at g3
    rw [o4, k4] at g4
    simp only [List.getElem?_cons_zero, List.getElem?_cons_succ] at g0 g1 g2 g3 g4
    obtain ⟨s, c0, z0, _⟩ := DataW.trod_string h0 g0
    obtain ⟨n1, c1, z1, _⟩ := DataW.trod_int h1 g1
    obtain ⟨n2, c2, z2, _⟩ := DataW.trod_int h2 g2
    obtain ⟨n3, c3, z3, _⟩ := DataW.trod_int h3 g3
    obtain ⟨n4, c4, z4, _⟩ := DataW.trod_int h4 g4
    rw [z0] at e0; rw [z1] at e1; rw [z2] at e2; rw [z3] at e3; rw [z4] at e4
    simp at e0 e1 e2 e3 e4
    have q0 := one_at c0
    have q1 := one_at c1
    have q2 := one_at c2
    have q3 := one_at c3
    have q4 := one_at c4
    subst e1 e2 e3 e4
    have es : s = ⟨l.toArray⟩ := by rw [e0]
    subst es
    match cs, hl.trans hC with
    | [x0, x1, x2, x3, x4], _ =>
      simp at q0 q1 q2 q3 q4
      rw [q0, q1, q2, q3, q4]
/-- An array whose elements are known, element by element. -/
theorem arr_cells {fuel n c : Nat} {t e : TypeId} {cs : List Value} {ds : List (DataW H)} {p : List MemPlace} {L : List (List Value)} (ht : P.underlying t = some (.array n e)) (hce : P.cellsOf e = c) (hct : P.cellsOf t = n * c) (hL : L.length = n)
    (h : DataW.trod enc P w base sp held fuel t cs = some (.agg ds, p))
    (hel : ∀ i (hi : i < L.length) m cs' d q, ds[i]? = some d → DataW.trod enc P w base sp held m e cs' = some (d, q) → cs' = L[i]) : cs = L.flatten := by
  obtain ⟨xs, m, _, hx, hl, hlen, hg⟩ := DataW.trod_array ht h
  simp only [Prod.mk.injEq] at hx
  have hx1 := hx.1
  simp at hx1
  refine chunks (c := c) (by rw [hl, hct, hL]) fun i hi => ?_
  have := hg i (by omega)
  rw [hce] at this
  have hxi : xs[i]? = some (xs[i]'(by omega)) := List.getElem?_eq_getElem (by omega)
  rw [hxi] at this
  exact hel i hi m _ _ _ (by rw [hx1, List.getElem?_map, hxi]; rfl) this
/-- A field of a struct that is read: its type, its offset and its number of cells. -/
theorem field_of {n : Nat} {fs : Array Field} {cs : List Value} {xs : List (DataW H × List MemPlace)} (hg : ∀ (i : Nat) (f : Field), fs[i]? = some f → DataW.trod enc P w base sp held n f.type ((cs.drop f.offset).take (P.cellsOf f.type)) = xs[i]?) (i : Nat) (ty : TypeId) (off k : Nat)
    (h : (fs[i]?).map (fun f => (f.type, f.offset)) = some (ty, off)) (hk : P.cellsOf ty = k) : DataW.trod enc P w base sp held n ty ((cs.drop off).take k) = xs[i]? := by
  cases hf : fs[i]? with
  | none => rw [hf] at h; cases h
  | some f =>
    rw [hf] at h
    simp at h
    have := hg i f hf
    rw [h.1, h.2, hk] at this
    exact this
/-- A listed array, out of the row's condition. -/
theorem glob_of_laid {P : Program} {W : World} {laid : List (String × DataW Unit)} {name : String} {ds : List (DataW Unit)} {g n c : Nat} {t e : TypeId} {L : List (List Value)} {cs : Array Value} (i : Nat)
    (hpl : (laid.all fun x => x.2.handleName?.isNone) = true) (h : laidMetH P laid W) (hi : laid[i]? = some (name, .agg ds))
    (hg : P.globalNamed name = some g) (hty : (P.globals[g]?).map (·.type) = some t) (ht : P.underlying t = some (.array n e)) (hce : P.cellsOf e = c) (hct : P.cellsOf t = n * c) (hL : L.length = n) (hcs : cs = L.flatten.toArray)
    (hel : ∀ (w : World) i (hi : i < L.length) m cs' d q, ds[i]? = some d → DataW.trod (fun _ => ()) P w 0 (fun _ => true) false m e cs' = some (d, q) → cs' = L[i]) : Glob W g cs := by
  rw [MakeChecks.laidMetH_plain _ _ _ hpl] at h
  obtain ⟨ps, hv, _⟩ := h
  obtain ⟨g', t', cs', fuel, p, hg', ht', hvar, hd⟩ := vars_at hv i name _ hi
  obtain rfl := Option.some.inj (hg.symm.trans hg')
  obtain rfl := Option.some.inj (hty.symm.trans ht')
  have hc := arr_cells ht hce hct hL hd (hel W)
  unfold World.var? at hvar
  rw [hg] at hvar
  simp only [Option.bind_some] at hvar
  split at hvar
  · rename_i cs2 tt fr he
    injection hvar with hvar
    subst hvar
    refine ⟨tt, fr, by rw [he, hcs, ← hc]⟩
  · cases hvar
end
end Go.Proofs.YtokkbboahajbhaaDoor
/- The listed table of calls. -/
namespace Go.Proofs.YtokkbboahajbhaaDoor
open Go.ChangeShapes Go.WideShapes Go.RowKit Go.Joins Go.Deep
theorem cells_of_row (w : World) (i : Nat) (hi : i < (rowsC.map (CRow.cells .u8)).length) (m : Nat) (cs' : List Value) (d : DataW Unit) (q : List MemPlace) (ds : List (DataW Unit)) (hds : DataW.agg ds = Rows.laid_kaudit_call_calls) (hd : ds[i]? = some d) (ht : DataW.trod (fun _ => ()) Tryd.prog w 0 (fun _ => true) false m 63 cs' = some (d, q)) : cs' = (rowsC.map (CRow.cells .u8))[i] := by
  have H : ∀ k : Fin 22, ds[k.val]? = some d → cs' = (rowsC.map (CRow.cells .u8))[k.val]'(by have : (rowsC.map (CRow.cells .u8)).length = 22 := rfl; omega) := by
    unfold Rows.laid_kaudit_call_calls at hds
    injection hds with hds
    subst hds
    intro k hd
    match k with
    | ⟨0, _⟩ => exact row5_cells Tryd.underlying63 (by kernel_rfl) (by kernel_rfl) Tryd.underlying9 Tryd.underlying5 Tryd.underlying5 Tryd.underlying5 Tryd.underlying5 (by cases hd; exact ht)
    | ⟨1, _⟩ => exact row5_cells Tryd.underlying63 (by kernel_rfl) (by kernel_rfl) Tryd.underlying9 Tryd.underlying5 Tryd.underlying5 Tryd.underlying5 Tryd.underlying5 (by cases hd; exact ht)
    | ⟨2, _⟩ => exact row5_cells Tryd.underlying63 (by kernel_rfl) (by kernel_rfl) Tryd.underlying9 Tryd.underlying5 Tryd.underlying5 Tryd.underlying5 Tryd.underlying5 (by cases hd; exact ht)
    | ⟨3, _⟩ => exact row5_cells Tryd.underlying63 (by kernel_rfl) (by kernel_rfl) Tryd.underlying9 Tryd.underlying5 Tryd.underlying5 Tryd.underlying5 Tryd.underlying5 (by cases hd; exact ht)
    | ⟨4, _⟩ => exact row5_cells Tryd.underlying63 (by kernel_rfl) (by kernel_rfl) Tryd.underlying9 Tryd.underlying5 Tryd.underlying5 Tryd.underlying5 Tryd.underlying5 (by cases hd; exact ht)
    | ⟨5, _⟩ => exact row5_cells Tryd.underlying63 (by kernel_rfl) (by kernel_rfl) Tryd.underlying9 Tryd.underlying5 Tryd.underlying5 Tryd.underlying5 Tryd.underlying5 (by cases hd; exact ht)
    | ⟨6, _⟩ => exact row5_cells Tryd.underlying63 (by kernel_rfl) (by kernel_rfl) Tryd.underlying9 Tryd.underlying5 Tryd.underlying5 Tryd.underlying5 Tryd.underlying5 (by cases hd; exact ht)
    | ⟨7, _⟩ => exact row5_cells Tryd.underlying63 (by kernel_rfl) (by kernel_rfl) Tryd.underlying9 Tryd.underlying5 Tryd.underlying5 Tryd.underlying5 Tryd.underlying5 (by cases hd; exact ht)
    | ⟨8, _⟩ => exact row5_cells Tryd.underlying63 (by kernel_rfl) (by kernel_rfl) Tryd.underlying9 Tryd.underlying5 Tryd.underlying5 Tryd.underlying5 Tryd.underlying5 (by cases hd; exact ht)
    | ⟨9, _⟩ => exact row5_cells Tryd.underlying63 (by kernel_rfl) (by kernel_rfl) Tryd.underlying9 Tryd.underlying5 Tryd.underlying5 Tryd.underlying5 Tryd.underlying5 (by cases hd; exact ht)
    | ⟨10, _⟩ => exact row5_cells Tryd.underlying63 (by kernel_rfl) (by kernel_rfl) Tryd.underlying9 Tryd.underlying5 Tryd.underlying5 Tryd.underlying5 Tryd.underlying5 (by cases hd; exact ht)
    | ⟨11, _⟩ => exact row5_cells Tryd.underlying63 (by kernel_rfl) (by kernel_rfl) Tryd.underlying9 Tryd.underlying5 Tryd.underlying5 Tryd.underlying5 Tryd.underlying5 (by cases hd; exact ht)
    | ⟨12, _⟩ => exact row5_cells Tryd.underlying63 (by kernel_rfl) (by kernel_rfl) Tryd.underlying9 Tryd.underlying5 Tryd.underlying5 Tryd.underlying5 Tryd.underlying5 (by cases hd; exact ht)
    | ⟨13, _⟩ => exact row5_cells Tryd.underlying63 (by kernel_rfl) (by kernel_rfl) Tryd.underlying9 Tryd.underlying5 Tryd.underlying5 Tryd.underlying5 Tryd.underlying5 (by cases hd; exact ht)
    | ⟨14, _⟩ => exact row5_cells Tryd.underlying63 (by kernel_rfl) (by kernel_rfl) Tryd.underlying9 Tryd.underlying5 Tryd.underlying5 Tryd.underlying5 Tryd.underlying5 (by cases hd; exact ht)
    | ⟨15, _⟩ => exact row5_cells Tryd.underlying63 (by kernel_rfl) (by kernel_rfl) Tryd.underlying9 Tryd.underlying5 Tryd.underlying5 Tryd.underlying5 Tryd.underlying5 (by cases hd; exact ht)
    | ⟨16, _⟩ => exact row5_cells Tryd.underlying63 (by kernel_rfl) (by kernel_rfl) Tryd.underlying9 Tryd.underlying5 Tryd.underlying5 Tryd.underlying5 Tryd.underlying5 (by cases hd; exact ht)
    | ⟨17, _⟩ => exact row5_cells Tryd.underlying63 (by kernel_rfl) (by kernel_rfl) Tryd.underlying9 Tryd.underlying5 Tryd.underlying5 Tryd.underlying5 Tryd.underlying5 (by cases hd; exact ht)
    | ⟨18, _⟩ => exact row5_cells Tryd.underlying63 (by kernel_rfl) (by kernel_rfl) Tryd.underlying9 Tryd.underlying5 Tryd.underlying5 Tryd.underlying5 Tryd.underlying5 (by cases hd; exact ht)
    | ⟨19, _⟩ => exact row5_cells Tryd.underlying63 (by kernel_rfl) (by kernel_rfl) Tryd.underlying9 Tryd.underlying5 Tryd.underlying5 Tryd.underlying5 Tryd.underlying5 (by cases hd; exact ht)
    | ⟨20, _⟩ => exact row5_cells Tryd.underlying63 (by kernel_rfl) (by kernel_rfl) Tryd.underlying9 Tryd.underlying5 Tryd.underlying5 Tryd.underlying5 Tryd.underlying5 (by cases hd; exact ht)
    | ⟨21, _⟩ => exact row5_cells Tryd.underlying63 (by kernel_rfl) (by kernel_rfl) Tryd.underlying9 Tryd.underlying5 Tryd.underlying5 Tryd.underlying5 Tryd.underlying5 (by cases hd; exact ht)
    | ⟨k + 22, h⟩ => exact absurd h (by omega)
  exact H ⟨i, hi⟩ hd
theorem calls_of_laid {W : World} {laid : List (String × DataW Unit)} (i : Nat) (hpl : (laid.all fun x => x.2.handleName?.isNone) = true) (h : laidMetH Tryd.prog laid W) (hi : laid[i]? = some ("kaudit/call.calls", Rows.laid_kaudit_call_calls)) : Calls10 W :=
  glob_of_laid (t := 64) (e := 63) (c := 5) (n := 22) (L := rowsC.map (CRow.cells .u8)) i hpl h hi rfl (by kernel_rfl) Tryd.underlying64 (by kernel_rfl) (by kernel_rfl) rfl rfl (fun w i hi m cs' d q hd ht => cells_of_row w i hi m cs' d q _ rfl hd ht)
end Go.Proofs.YtokkbboahajbhaaDoor
/- The wrap of a law's row that keeps the world's shape beside what the listed variables hold. -/
namespace Go.Proofs.YtokkbboahajbhaaDoor
open Go
variable {H : Type} {enc : TypeId × Value → H}
theorem handed_and_shaped {a : Assume} {C : Checked} {os : Os} {f : FuncId} {fn : Func} {s : ChangeSpec} {conds : List PathCond} {apart fresh handsOn again : Bool} {X : World → Array Value → Prop}
    (hX : ∀ (w w' : World) (args : Array Value), w.heap = w'.heap → X w args → X w' args)
    (own : ownKnob C.prog.godebug = none) (started : os.Started) (noInit : C.prog.inits.idxOf? f = none) (hfn : C.prog.funcs[f]? = some fn)
    (witness : ∃ (w : World) (tape : Tape) (i : Input), w.os = os ∧ (w.forCall tape i).Shaped C.prog ∧ i.vars = [] ∧ Input.okWide C.prog (w.forCall tape i) .any w.heap.size f i ∧
      ((s.pre enc C.prog fn conds apart (w.forCall tape i).memory i.args ∧ X (w.forCall tape i).memory i.args) ∧ sizedMet enc C.prog fn (OpenSpec.ofChange s) apart (w.forCall tape i).memory i.args) ∧ a.holds C.prog (lone (Frame.enter C.prog f i.args .normal) [] (w.forCall tape i)))
    (contract : ∀ (W : World) (base : Nat) (args : Array Value) (ds gs : List (DataW H)) (before : List MemPlace),
      (∀ (j : Nat) t v, fn.params[j]? = some t → args[j]? = some v → Value.okWide C.prog W .any base t v) →
      DataW.Whole enc C.prog fn.params.toList s.vars apart W args.toList ds gs before → X W args → W.ShapedOpen C.prog →
      Calls C.prog f args W fun e W' => ∃ v, e = .returned v ∧ s.post enc C.prog fn apart fresh handsOn again W args v W') :
    ReturnsInHanded a C os f .any (fun w args => (s.pre enc C.prog fn conds apart w args ∧ X w args) ∧ sizedMet enc C.prog fn (OpenSpec.ofChange s) apart w args) (s.post enc C.prog fn apart fresh handsOn again) := by
  refine returnsInHanded_of_calls own started noInit witness ?_
  intro w tape i _ hsh _ hok hpre hholds
  obtain ⟨_, _, _, fn', hfn', _, _, _, _, hval⟩ := hok
  have e : fn' = fn := Option.some.inj (hfn'.symm.trans hfn)
  subst e
  obtain ⟨⟨⟨ds, gs, before, hw, hc⟩, hx⟩, hz⟩ := hpre
  have hw' := DataW.Whole.of_heap (w' := w.forCall tape i) (by rfl) hw
  refine (contract (w.forCall tape i) w.heap.size i.args ds gs before hval hw' (hX _ _ _ (by rfl) hx) hsh).mono fun e W' ⟨v, he, hp⟩ => ?_
  subst he
  exact ChangeSpec.post_blind hp
end Go.Proofs.YtokkbboahajbhaaDoor
/- The listed error variables; the variable MaxLen, out of the world's shape. -/
namespace Go.Proofs.YtokkbboahajbhaaDoor
open Go.RowKit
theorem errv_of_laid {W : World} {laid : List (String × DataW Unit)} {name nm : String} {d : DataW Unit} {g : Nat} {ms : Array (String × TypeId)} (i : Nat) (hpl : (laid.all fun x => x.2.handleName?.isNone) = true) (h : laidMetH Tryd.prog laid W) (hi : laid[i]? = some (name, .iface nm d))
    (hg : Tryd.prog.globalNamed name = some g) (hty : (Tryd.prog.globals[g]?).map (·.type) = some 79) (hu : Tryd.prog.underlying 79 = some (.interface ms)) : ErrV W g := by
  rw [MakeChecks.laidMetH_plain _ _ _ hpl] at h
  obtain ⟨ps, hv, _⟩ := h
  obtain ⟨g', t', cs, fuel, p, hg', ht', hvar, hd⟩ := vars_at hv i name _ hi
  obtain rfl := Option.some.inj (hg.symm.trans hg')
  obtain rfl := Option.some.inj (hty.symm.trans ht')
  obtain ⟨_, u, v, hc, _, _⟩ := iface_of_trod hu hd
  unfold World.var? at hvar
  rw [hg] at hvar
  simp only [Option.bind_some] at hvar
  split at hvar
  · rename_i cs2 tt fr he
    injection hvar with hvar
    subst hvar
    refine ⟨.iface u v, ?_, .inr ⟨u, v, rfl⟩⟩
    rw [cell_of_row W _ 0 cs2 tt fr he]
    have : cs2 = #[.iface u v] := by apply Array.toList_inj.1; rw [hc]
    rw [this]; rfl
  · cases hvar
theorem mx_of_shape {W : World} (h : W.ShapedOpen Tryd.prog) : Mx W :=
  cell_of_shapedOpen_int (P := Tryd.prog) (g := 3) (t := 3) (zero := #[.int .i64 0]) h (of_decide_eq_true (by kernel_rfl)) (by kernel_rfl) rfl (by kernel_rfl) (by kernel_rfl) Tryd.underlying3
end Go.Proofs.YtokkbboahajbhaaDoor
/- The walk of CallParses, with what the row lists. -/

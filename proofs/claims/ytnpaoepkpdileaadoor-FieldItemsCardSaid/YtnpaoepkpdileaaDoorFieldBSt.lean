/- What a law on fields keeps beside a context that it made. -/
import Derived.Test.YtnpaoepkpdileaaDoorSrcContext
import Derived.Test.YtnpaoepkpdileaaDoorFieldAwake
import Derived.Test.YtnpaoepkpdileaaDoorFieldVEv
import Derived.Deep.RegionHeld3
namespace Go.Proofs.YtnpaoepkpdileaaDoor
open Go.RowKit
theorem lw3 (a : Addr) (w : World) : (loadVar 3 a).run Tryd.prog w = (load a).run Tryd.prog w := by
  unfold loadVar
  simp [go_sem]
theorem lw9 (a : Addr) (w : World) : (loadVar 9 a).run Tryd.prog w = (load a).run Tryd.prog w := by
  unfold loadVar
  simp [go_sem]
theorem lw33 (a : Addr) (w : World) : (loadVar 33 a).run Tryd.prog w = (load a).run Tryd.prog w := by
  unfold loadVar
  simp [go_sem]
theorem lw_ctx {w : World} {g : Nat} {c : Ctx} {r : CRest} {it : Value} (h : CtxB w g c r it) : (loadVar 35 ⟨g, 0, none⟩).run Tryd.prog w = .ok (.agg (ctxC c r it)) w := run_loadVar_row w g _ _ _ _ _ h Tryd.underlying35 rfl (ctx_sz _ _ _)
theorem ItemsAt.grown {w w' : World} {B g : Nat} {A : Option Addr} {L : List (Itm × IRest)} (h : ItemsAt w B A L) (hg : w.grownBy w' (some g)) (hB : B ≤ w.heap.size) (hne : ∀ ad, A = some ad → ad.block ≠ g) : ItemsAt w' B A L := fun k hk => by
  obtain ⟨ad, e, hl, hc⟩ := h k hk
  exact ⟨ad, e, hl, fun j hj => (hg.cell_far _ (by rw [add_block, add_block]; omega) (by rw [add_block, add_block]; intro e2; injection e2 with e2; exact hne ad e e2)).trans (hc j hj)⟩
/-- What a law keeps beside a context that it made: the source, the context, its items. -/
structure BSt (w wr : World) (gc : Nat) (b : Int) (c : Ctx) (r : CRest) (A : Option Addr) (cp : Nat) (L : List (Itm × IRest)) : Prop where
  low : Below w.heap.size w wr
  src : SrcOk wr w.heap.size w.heap.size b
  cb : CtxB wr gc c r (.slice A L.length cp)
  it : ItemsAt wr gc A L
  nb : ∀ ad, A = some ad → ad.block ≠ w.heap.size
  hg : w.heap.size < gc
section
variable {w wr w' : World} {gc : Nat} {b b' : Int} {c : Ctx} {r : CRest} {A : Option Addr} {cp : Nat} {L : List (Itm × IRest)}
theorem BSt.step (h : BSt w wr gc b c r A cp L) (hs : SrcOk w' w.heap.size w.heap.size b') (hg : wr.grownBy w' (some w.heap.size)) : BSt w w' gc b' c r A cp L :=
  ⟨below_only h.low hg h.low.size (Nat.le_refl _), hs, Blk.grown h.cb hg (fun e => by injection e with e; have := h.hg; omega), h.it.grown hg (Nat.le_of_lt (Blk.lt h.cb)) h.nb, h.nb, h.hg⟩
theorem BSt.below (h : BSt w wr gc b c r A cp L) (hb : Below wr.heap.size wr w') : BSt w w' gc b c r A cp L :=
  ⟨below_then h.low hb, h.src.below hb, Blk.below h.cb hb, h.it.keep hb (Nat.le_of_lt (Blk.lt h.cb)), h.nb, h.hg⟩
theorem BSt.drew (h : BSt w wr gc b c r A cp L) : BSt w wr.drew gc b c r A cp L := ⟨⟨h.low.os, h.low.tape, h.low.output, h.low.size, h.low.block⟩, h.src, h.cb, h.it, h.nb, h.hg⟩
theorem BSt.more (h : BSt w wr gc b c r A cp L) (hb : b ≤ b') : BSt w wr gc b' c r A cp L := ⟨h.low, h.src.more hb, h.cb, h.it, h.nb, h.hg⟩
theorem BSt.items (h : BSt w wr gc b c r A cp L) : ItemsAt wr wr.heap.size A L := h.it.more (Nat.le_of_lt (Blk.lt h.cb))
end
/-- A context that Context made, laid in a block of the law's own. -/
theorem bst_new {w w1 w2 : World} {b : Int} {c : Ctx} {r : CRest} {v : Value} {L : List (Itm × IRest)} (hb1 : Below w.heap.size w w1) (h1 : w.heap.size < w1.heap.size) (hs : SrcOk w2 w.heap.size w.heap.size b) (hg : w1.grownBy w2 (some w.heap.size)) (hown : OwnI w2 w1.heap.size v L) :
    ∃ A cp, v = .slice A L.length cp ∧ BSt w ((w2.alloc (.cells zeroX 35)).setRow w2.heap.size (ctxC c r v)) w2.heap.size b c r A cp L := by
  obtain ⟨A, cp, rfl, hit⟩ := hown.items
  have hsz := hg.size
  have hb2 := below_only hb1 hg hb1.size (Nat.le_refl _)
  have hbR : Below w2.heap.size w2 ((w2.alloc (.cells zeroX 35)).setRow w2.heap.size (ctxC c r (.slice A L.length cp))) := below_row ((Below.refl _ _).alloc (Nat.le_refl _) _) (Nat.le_refl _) _
  refine ⟨A, cp, rfl, below_then hb2 hbR, hs.below hbR, (Blk.new w2 zeroX 35).row _, hit.keep hbR (Nat.le_refl _), fun ad e => ?_, by omega⟩
  subst e
  have := hown.ge ad.block (by rfl)
  omega
end Go.Proofs.YtnpaoepkpdileaaDoor

/- Texts of one proof, laid together. -/
import Derived.Test.YtollifnnpihfdaaGreatDoorC26
import Derived.Test.YtollifnnpihfdaaGreatDoorC27
import Derived.Test.YtollifnnpihfdaaGreatDoorC30
import Derived.Test.YtollifnnpihfdaaGreatDoorC35
import Derived.Test.YtollifnnpihfdaaGreatDoorC37
import Derived.Great.BuildSlice
import Derived.Great.Walk
/- The walk of the law EmitSingles. -/
namespace Go.Proofs.YtollifnnpihfdaaGreatDoor
open Go.RowKit
theorem pair_user (c : Ctx) (r : CRest) (it : Value) (s : ByteArray) (t : Int) : ∃ R : Rc, R.ps.length ≤ 1000000 ∧ (∀ W : World, Calls Tryz.prog 32 #[.agg (ctxC c r it), .string s, .int .i64 t] W (RetR R W)) ∧ ∀ W : World, Calls Tryz.prog 33 #[.agg (ctxC c r it), .string s, .int .i64 t] W (RetR R W) :=
  ⟨usR c s t, by show 5 ≤ 1000000; omega, fun W => vuser c r it s t W, fun W => ruser c r it s t W⟩
theorem pair_loss (a : Nat → Int) (t : Int) : ∃ R : Rc, R.ps.length ≤ 1000000 ∧ (∀ W : World, Calls Tryz.prog 35 #[.agg (loC a), .int .i64 t] W (RetR R W)) ∧ ∀ W : World, Calls Tryz.prog 36 #[.agg (loC a), .int .i64 t] W (RetR R W) :=
  ⟨loR a t, by show 5 ≤ 1000000; omega, fun W => vloss a t W, fun W => rloss a t W⟩
theorem pair_config (op : ByteArray) (r : Rul) (A : Option Addr) (n c : Nat) (li ra fa en t : Int) (hn : n = r.ts.length) (hz : SizR r) (hi : ∀ t ∈ r.ts, I64 t.nu) (W0 : World) (hT : TestsAt W0 W0.heap.size A r.ts) (hG : RGlob W0) :
    ∃ R : Rc, R.ps.length ≤ 1000000 ∧ (∀ W : World, Below W0.heap.size W0 W → Calls Tryz.prog 29 #[.string op, rulV r (.slice A n c), .agg (blC li ra fa), .int .i64 en, .int .i64 t] W (RetR R W)) ∧ ∀ W : World, Below W0.heap.size W0 W → Calls Tryz.prog 34 #[.string op, rulV r (.slice A n c), .agg (blC li ra fa), .int .i64 en, .int .i64 t] W (RetR R W) :=
  ⟨cfR op (fmtR r) li ra fa en t, by show 6 ≤ 1000000; omega, fun W h => vconfig op r A n c li ra fa en t hn hz hi W ((hT.keep h (Nat.le_refl _)).more h.size) (hG.below h), fun W h => rconfig op r A n c li ra fa en t hn hz hi W ((hT.keep h (Nat.le_refl _)).more h.size)⟩
/-- What the law keeps: the source, and blocks with what they hold. -/
structure SgK (w wr : World) (b : Int) (Bs : List (Nat × TypeId × Array Value)) : Prop where
  low : Below w.heap.size w wr
  src : SrcOk wr w.heap.size w.heap.size b
  blk : ∀ x ∈ Bs, Blk wr x.1 x.2.1 x.2.2
  ne : ∀ x ∈ Bs, x.1 ≠ w.heap.size
section
variable {w wr w' : World} {b b' : Int} {Bs : List (Nat × TypeId × Array Value)}
theorem SgK.step (h : SgK w wr b Bs) (hs : SrcOk w' w.heap.size w.heap.size b') (hg : wr.grownBy w' (some w.heap.size)) : SgK w w' b' Bs :=
  ⟨below_only h.low hg h.low.size (Nat.le_refl _), hs, fun x hx => (h.blk x hx).grown hg (fun e => by injection e with e; exact h.ne x hx e.symm), h.ne⟩
theorem SgK.below (h : SgK w wr b Bs) (hb : Below wr.heap.size wr w') : SgK w w' b Bs := ⟨below_then h.low hb, h.src.below hb, fun x hx => (h.blk x hx).below hb, h.ne⟩
theorem SgK.new (h : SgK w wr b Bs) (cs : Array Value) (t : TypeId) : SgK w (wr.alloc (.cells cs t)) b ((wr.heap.size, t, cs) :: Bs) := by
  have hb : Below wr.heap.size wr (wr.alloc (.cells cs t)) := (Below.refl _ _).alloc (Nat.le_refl _) _
  have h1 := h.below hb
  have hl := src_lt h.src
  exact ⟨h1.low, h1.src, fun x hx => by
    rcases List.mem_cons.1 hx with rfl | hx
    · exact Blk.new wr cs t
    · exact h1.blk x hx, fun x hx => by
    rcases List.mem_cons.1 hx with rfl | hx
    · show wr.heap.size ≠ w.heap.size; omega
    · exact h.ne x hx⟩
theorem SgK.laid (h : SgK w wr b Bs) (os cs : Array Value) (t : TypeId) : SgK w ((wr.alloc (.cells os t)).setRow wr.heap.size cs) b ((wr.heap.size, t, cs) :: Bs) := by
  have hb : Below wr.heap.size wr ((wr.alloc (.cells os t)).setRow wr.heap.size cs) := below_row ((Below.refl _ _).alloc (Nat.le_refl _) _) (Nat.le_refl _) _
  have h1 := h.below hb
  have hl := src_lt h.src
  exact ⟨h1.low, h1.src, fun x hx => by
    rcases List.mem_cons.1 hx with rfl | hx
    · exact (Blk.new wr os t).row cs
    · exact h1.blk x hx, fun x hx => by
    rcases List.mem_cons.1 hx with rfl | hx
    · show wr.heap.size ≠ w.heap.size; omega
    · exact h.ne x hx⟩
end
theorem SgK.newAt {w wr : World} {b : Int} {Bs : List (Nat × TypeId × Array Value)} (h : SgK w wr b Bs) (cs : Array Value) (t : TypeId) {k : Nat} (hk : wr.heap.size = k) : SgK w (wr.alloc (.cells cs t)) b ((k, t, cs) :: Bs) := hk ▸ h.new cs t
/-- The blocks that the comparisons read. -/
structure SgH (bx by_ br bc bl : Nat) (cx : Array Value) (cy : Array Value) (cr : Array Value) (cc : Array Value) (cl : Array Value) (w : World) : Prop where
  x : Blk w bx 54 cx
  y : Blk w by_ 54 cy
  r : Blk w br 90 cr
  c : Blk w bc 104 cc
  l : Blk w bl 101 cl
theorem SgH.below {bx by_ br bc bl : Nat} {cx cy cr cc cl : Array Value} {w w' : World} (h : SgH bx by_ br bc bl cx cy cr cc cl w) (hb : Below w.heap.size w w') : SgH bx by_ br bc bl cx cy cr cc cl w' := ⟨Blk.below h.x hb, Blk.below h.y hb, Blk.below h.r hb, Blk.below h.c hb, Blk.below h.l hb⟩
theorem ld_ctxS {w : World} {g : Nat} {c : Ctx} {r : CRest} {it : Value} (h : Blk w g 54 (ctxC c r it)) : (loadVar 54 ⟨g, 0, none⟩).run Tryz.prog w = .ok (.agg (ctxC c r it)) w := run_loadVar_row w g _ _ _ _ _ h Tryz.underlying54 rfl (ctx_sz _ _ _)
theorem ld_rulS {w : World} {g : Nat} {r : Rul} {tv : Value} (h : Blk w g 90 (rulC r tv)) : (loadVar 90 ⟨g, 0, none⟩).run Tryz.prog w = .ok (.agg (rulC r tv)) w := run_loadVar_row w g _ _ _ _ _ h Tryz.underlying90 rfl (rul_sz _ _)
theorem ld_blS {w : World} {g : Nat} {li ra fa : Int} (h : Blk w g 104 (blC li ra fa)) : (loadVar 104 ⟨g, 0, none⟩).run Tryz.prog w = .ok (.agg (blC li ra fa)) w := run_loadVar_row w g _ _ _ _ _ h Tryz.underlying104 rfl (by show _ = some 17; kernel_rfl)
theorem ld_loS {w : World} {g : Nat} {a : Nat → Int} (h : Blk w g 101 (loC a)) : (loadVar 101 ⟨g, 0, none⟩).run Tryz.prog w = .ok (.agg (loC a)) w := run_loadVar_row w g _ _ _ _ _ h Tryz.underlying101 rfl (by show _ = some 5; kernel_rfl)
abbrev pxC (p : Nat → Int) (comm exe : ByteArray) : Ctx := ⟨0, p, fun _ => 0, 0, 0, comm, exe⟩
abbrev pxR (d i : Int) (o : Sl) (u : Bool) : CRest := ⟨d, i, o, u, 0, ⟨none, 0, 0⟩, ⟨none, 0, 0⟩⟩
abbrev paC (p : Nat → Int) (d i : Int) (comm exe : ByteArray) (o : Sl) (u : Bool) : Array Value := pcC (pxC p comm exe) (pxR d i o u)
theorem mk_sizS {r : Rul} (h : MkR r) (hl : r.ts.length ≤ 3) : SizR r ∧ ∀ t ∈ r.ts, I64 t.nu :=
  ⟨⟨h.ca, by have := h.pa; omega, by have := h.ke; omega, fun t ht => by have := (h.ts t ht).2; unfold maxLen; omega, by omega⟩, fun t ht => by have := (h.ts t ht).1; unfold I64; omega⟩
theorem zero_siz : SizR zeroR := ⟨by decide, by decide, by decide, (fun t h => by cases h), by decide⟩
attribute [local irreducible] ctxC checkF watchB callsB firstE checkR cleanB callsOk textR headW maskS quoteS testS anyE permS catW listN actN cellsAc cellsLi keyT fmtR
attribute [-go_sem] loadVar
attribute [local go_sem] lv3 lv9
set_option maxRecDepth 100000 in
set_option maxHeartbeats 64000000 in
theorem emitSingles_walk (w : World) (p : Nat → Int) (d i : Int) (comm exe : ByteArray) (o : Sl) (u : Bool) (op tx : ByteArray) (a : Nat → Int) (li ra fa en t : Int) (A : Option Addr) (n c : Nat) (hn : (n : Int) ≤ 9223372036854775807)
    (hl : ∀ k, k < n → ∃ (ad : Addr) (z : Int), A = some ad ∧ ad.block < w.heap.size ∧ w.cell? (ad.add k) = some (.int .i64 z) ∧ -9223372036854775808 ≤ z ∧ z ≤ 9223372036854775807) (ho : op.size ≤ maxLen) (hx : tx.size ≤ maxLen) (hG : RGlob w) (hc : Calls10 w) :
    Calls Tryz.prog 9 #[.agg (paC p d i comm exe o u), .string op, .string tx, .agg (loC a), .int .i64 li, .int .i64 ra, .int .i64 fa, .int .i64 en, .int .i64 t, .slice A n c] w fun e w' => e = .returned (.bool true) ∧ Below w.heap.size w w' := by
  have hB1 : Below w.heap.size w ((w.alloc (.cells (paC p d i comm exe o u) 47)).alloc (.cells (loC a) 101)) := ((Below.refl _ _).alloc (Nat.le_refl _) _).alloc (by simp) _
  have XP := Lib.hid (show Blk ((w.alloc (.cells (paC p d i comm exe o u) 47)).alloc (.cells (loC a) 101)) w.heap.size 47 (paC p d i comm exe o u) from (Blk.new w (paC p d i comm exe o u) 47).alloc _)
  have xl : Blk ((w.alloc (.cells (paC p d i comm exe o u) 47)).alloc (.cells (loC a) 101)) (w.heap.size + 1) 101 (loC a) := by
    have := Blk.new (w.alloc (.cells (paC p d i comm exe o u) 47)) (loC a) 101
    simpa using this
  have hsz : (((w.alloc (.cells (paC p d i comm exe o u) 47)).alloc (.cells (loC a) 101))).heap.size = w.heap.size + 2 := by simp
  have HL := Lib.hid (show ∀ k, k < n → ∃ (ad : Addr) (z : Int), A = some ad ∧ ad.block < (((w.alloc (.cells (paC p d i comm exe o u) 47)).alloc (.cells (loC a) 101))).heap.size ∧ (((w.alloc (.cells (paC p d i comm exe o u) 47)).alloc (.cells (loC a) 101))).cell? (ad.add k) = some (.int .i64 z) ∧ -9223372036854775808 ≤ z ∧ z ≤ 9223372036854775807 from fun k hk => by
    obtain ⟨ad, z, e, h1, h2, h3⟩ := hl k hk
    exact ⟨ad, z, e, Nat.lt_of_lt_of_le h1 hB1.size, (hB1.cell (by rw [addE_block]; exact h1)).trans h2, h3⟩)
  have HN := Lib.hid hn
  have XL := Lib.hid xl
  have HB1 := Lib.hid hB1
  have HSZ := Lib.hid hsz
  have HGL := Lib.hid (fun (W : World) (h : Below w.heap.size w W) => hG.below h)
  have HAW := Lib.hid (fun (W : World) (h : Below w.heap.size w W) => awake19 W (hc.below h (Nat.le_refl _)))
  unfold maxLen at ho hx
  clear hB1 xl hsz hl hn hG hc
  go_enter Tryz.func9, Tryz.ntmps9
  by_cases h1 : 1000 < tx.size
  case pos =>
    have h2 : (1000 : Int) < (tx.size : Int) := by omega
    clear h1
    go_wp2_with fail
    refine (HAW.out _ HB1.out).mono ?_
    rintro e w2 ⟨rfl, hb2⟩
    have HB2 := Lib.hid (below_then HB1.out hb2)
    clear hb2
    go_wp2_with fail
    go_ret
    exact ⟨rfl, HB2.out⟩
  case neg =>
  have h2 : ¬ (1000 : Int) < (tx.size : Int) := by omega
  clear h1
  by_cases h3 : 1000 < op.size
  case pos =>
    have h4 : (1000 : Int) < (op.size : Int) := by omega
    clear h3
    go_wp2_with fail
    refine (HAW.out _ HB1.out).mono ?_
    rintro e w2 ⟨rfl, hb2⟩
    have HB2 := Lib.hid (below_then HB1.out hb2)
    clear hb2
    go_wp2_with fail
    go_ret
    exact ⟨rfl, HB2.out⟩
  case neg =>
  have h4 : ¬ (1000 : Int) < (op.size : Int) := by omega
  clear h3
  go_wp2_with fail
  clear h2 h4 ho hx
  generalize hW1 : ((w.alloc (.cells (paC p d i comm exe o u) 47)).alloc (.cells (loC a) 101)) = W1 at *
  clear hW1
  refine (src_new _ A n c HN.out HL.out).mono ?_
  rintro e w1 ⟨rfl, hs1, hb1⟩
  have K1 := Lib.hid (show SgK W1 w1 0 [(w.heap.size + 1, 101, loC a), (w.heap.size, 47, paC p d i comm exe o u)] from ⟨hb1, hs1, fun x hx => by
    rcases List.mem_cons.1 hx with rfl | hx
    · exact Blk.below XL.out hb1
    · rw [List.mem_singleton.1 hx]; exact Blk.below XP.out hb1, fun x hx => by
    rcases List.mem_cons.1 hx with rfl | hx
    · show w.heap.size + 1 ≠ W1.heap.size; rw [HSZ.out]; omega
    · rw [List.mem_singleton.1 hx]; show w.heap.size ≠ W1.heap.size; rw [HSZ.out]; omega⟩)
  have XPP := Lib.hid (K1.out.blk (w.heap.size, 47, paC p d i comm exe o u) (by simp))
  clear hs1 hb1 XP XL HL
  have X4 := Lib.hid (Blk.new w1 zeroX 54)
  go_upto_region 5 with (first | ((with_reducible refine load_blk ?_ 47 (.tmp 10) ?_ XPP.out ?_ _ Tryz.underlying47 ?_ ?_ ?_); (iterate 4 rfl); exact pc_sz _ _) | (refine wpList_buildTo rfl 54 _ rfl (some 38) rfl (ctxC (pxC p comm exe) (pxR d i o u) (.slice none 0 0)) (by as_aux_lemma => kernel_rfl) ?_) | ((with_reducible refine store_blk ?_ 54 (.tmp 22) (.tmp 38) ?_ X4.out (ctxC (pxC p comm exe) (pxR d i o u) (.slice none 0 0)) ?_ ?_ ?_ ?_ ?_ ?_); (iterate 4 rfl); (exact ctx_sz _ _ _); (exact ctx_old _ _ _); (exact ctx_one _ _ _ _ _)))
  have K2 := Lib.hid (K1.out.laid zeroX (ctxC (pxC p comm exe) (pxR d i o u) (.slice none 0 0)) 54)
  clear X4 K1 XPP
  generalize (w1.alloc (.cells zeroX 54)).setRow w1.heap.size (ctxC (pxC p comm exe) (pxR d i o u) (.slice none 0 0)) = w2 at *
  generalize w1.heap.size = bx at *
  go_wp2_with fail
  refine (src_context _ W1.heap.size W1.heap.size 0 K2.out.src (by omega)).mono ?_
  rintro e w3 ⟨cy, ry, it, L, rfl, hL2, hown, hs3, hg3⟩
  have K3 := Lib.hid (K2.out.step hs3 hg3)
  obtain ⟨Ai, cp, ei, _⟩ := hown.items
  subst ei
  clear hL2 hown hs3 hg3 K2
  have X5 := Lib.hid (Blk.new w3 zeroX 54)
  go_upto_region 6 with ((with_reducible refine store_blk ?_ 54 (.tmp 23) (.tmp 40) ?_ X5.out (ctxC cy ry (.slice Ai L.length cp)) ?_ ?_ ?_ ?_ ?_ ?_); (iterate 4 rfl); (exact ctx_sz _ _ _); (exact ctx_old _ _ _); (exact ctx_one _ _ _ _ _))
  have K4 := Lib.hid (K3.out.laid zeroX (ctxC cy ry (.slice Ai L.length cp)) 54)
  clear X5 K3
  generalize (w3.alloc (.cells zeroX 54)).setRow w3.heap.size (ctxC cy ry (.slice Ai L.length cp)) = w4 at *
  generalize w3.heap.size = byy at *
  go_wp2_with fail
  refine (src_rule _ W1.heap.size W1.heap.size (0 + 500) K4.out.src (by omega)).mono ?_
  rintro e w5 ⟨r, T, tn, tc, rfl, htn, htl, hm, hown, hs5, hg5⟩
  obtain ⟨z1, z2⟩ := mk_sizS hm (by omega)
  obtain ⟨T', c', e5, hT⟩ := hown.tests
  injection e5 with e5 e6 e7
  subst e5 e7
  have K5 := Lib.hid (K4.out.step hs5 hg5)
  have HT5 := Lib.hid hT
  have HTN := Lib.hid htn
  have Z1 := Lib.hid z1
  have Z2 := Lib.hid z2
  clear hs5 hg5 hown hT hm htl htn K4 z1 z2 e6
  go_upto_region 7 with (fail)
  have K6 := Lib.hid (K5.out.new (rulC r (.slice T tn tc)) 90)
  have HT6 := Lib.hid ((HT5.out.keep ((Below.refl w5.heap.size w5).alloc (Nat.le_refl _) (.cells (rulC r (.slice T tn tc)) 90)) (Nat.le_refl _)).more ((Below.refl w5.heap.size w5).alloc (Nat.le_refl _) (.cells (rulC r (.slice T tn tc)) 90)).size)
  have K7 := Lib.hid (K6.out.newAt (blC li ra fa) 104 (show (w5.alloc (.cells (rulC r (.slice T tn tc)) 90)).heap.size = w5.heap.size + 1 by simp))
  have HT7 := Lib.hid ((fun (hb : Below _ _ _) => (HT6.out.keep hb (Nat.le_refl _)).more hb.size) ((Below.refl _ _).alloc (Nat.le_refl _) (.cells (blC li ra fa) 104)))
  clear HT5 HT6 K5 K6
  go_upto_region 8 with (fail)
  generalize hW0 : (w5.alloc (.cells #[.int .i64 r.li, .int .i64 r.ac, .int .u64 r.ca, .slice T tn tc, .int .i64 r.wa, .string r.pa, .int .i64 r.pe, .string r.ke] 90)).alloc (.cells (blC li ra fa) 104) = W0
  have K8 := Lib.hid (show SgK W1 W0 (0 + 500 + 200) [(w5.heap.size + 1, 104, blC li ra fa), (w5.heap.size, 90, rulC r (.slice T tn tc)), (byy, 54, ctxC cy ry (.slice Ai L.length cp)), (bx, 54, ctxC (pxC p comm exe) (pxR d i o u) (.slice none 0 0)), (w.heap.size + 1, 101, loC a), (w.heap.size, 47, paC p d i comm exe o u)] from hW0 ▸ K7.out)
  have HT8 := Lib.hid (show TestsAt W0 W0.heap.size T r.ts from hW0 ▸ HT7.out)
  clear hW0 K7 HT7
  have HLW := Lib.hid (below_then HB1.out K8.out.low)
  have HAW0 := Lib.hid (fun (W : World) (h : Below W0.heap.size W0 W) => HAW.out W (below_then HLW.out h))
  obtain ⟨R1, l1, v1, r1⟩ := pair_user (pxC p comm exe) (pxR d i o u) (.slice none 0 0) tx t
  obtain ⟨R2, l2, v2, r2⟩ := pair_user cy ry (.slice Ai L.length cp) tx t
  obtain ⟨R3, l3, v3, r3⟩ := pair_config op r T tn tc li ra fa en t HTN.out Z1.out Z2.out W0 HT8.out (HGL.out _ HLW.out)
  obtain ⟨R4, l4, v4, r4⟩ := pair_config op zeroR none 0 0 li ra fa en t rfl zero_siz (fun t h => by cases h) W0 TestsAt.nil (HGL.out _ HLW.out)
  obtain ⟨R5, l5, v5, r5⟩ := pair_loss a t
  have V1 := Lib.hid (fun W (_ : Below W0.heap.size W0 W) => v1 W)
  have Q1 := Lib.hid (fun W (_ : Below W0.heap.size W0 W) => r1 W)
  have L1 := Lib.hid l1
  have V2 := Lib.hid (fun W (_ : Below W0.heap.size W0 W) => v2 W)
  have Q2 := Lib.hid (fun W (_ : Below W0.heap.size W0 W) => r2 W)
  have L2 := Lib.hid l2
  have V3 := Lib.hid v3
  have Q3 := Lib.hid r3
  have L3 := Lib.hid l3
  have V4 := Lib.hid v4
  have Q4 := Lib.hid r4
  have L4 := Lib.hid l4
  have V5 := Lib.hid (fun W (_ : Below W0.heap.size W0 W) => v5 W)
  have Q5 := Lib.hid (fun W (_ : Below W0.heap.size W0 W) => r5 W)
  have L5 := Lib.hid l5
  clear v1 v2 v3 v4 v5 r1 r2 r3 r4 r5 l1 l2 l3 l4 l5 HT8 HTN Z1 Z2 HAW HGL HN
  have X8 : SgH bx byy w5.heap.size (w5.heap.size + 1) (w.heap.size + 1) (ctxC (pxC p comm exe) (pxR d i o u) (.slice none 0 0)) (ctxC cy ry (.slice Ai L.length cp)) (rulC r (.slice T tn tc)) (blC li ra fa) (loC a) W0 := ⟨K8.out.blk (bx, 54, ctxC (pxC p comm exe) (pxR d i o u) (.slice none 0 0)) (by simp), K8.out.blk (byy, 54, ctxC cy ry (.slice Ai L.length cp)) (by simp), K8.out.blk (w5.heap.size, 90, rulC r (.slice T tn tc)) (by simp), K8.out.blk (w5.heap.size + 1, 104, blC li ra fa) (by simp), K8.out.blk (w.heap.size + 1, 101, loC a) (by simp)⟩
  have HB := Lib.hid (Below.refl W0.heap.size W0).drew
  clear K8
  refine wp_region_held_drew (S := SgH bx byy w5.heap.size (w5.heap.size + 1) (w.heap.size + 1) (ctxC (pxC p comm exe) (pxR d i o u) (.slice none 0 0)) (ctxC cy ry (.slice Ai L.length cp)) (rulC r (.slice T tn tc)) (blC li ra fa) (loC a)) (by kernel_rfl) (X8.below (Below.refl _ _).drew) (fun hHeld => ?_)
  clear X8
  refine wpAnyH_take (i := 0) (v := ?_) rfl (by kernel_rfl) (by kernel_rfl) (by kernel_rfl) (fun _ _ _ h => h) (Or.inl ⟨by kernel_rfl, ?_⟩) hHeld ?_
  rotate_left
  · intro w hSw
    have hl := ld_ctxS hSw.x
    go_simp
    first | (with_reducible rfl) | (rw [if_neg (by first | omega | (simp; omega))])
  refine wpAnyH_take (i := 1) (v := ?_) rfl (by kernel_rfl) (by kernel_rfl) (by kernel_rfl) (fun _ _ _ h => h) (Or.inl ⟨by kernel_rfl, ?_⟩) hHeld ?_
  rotate_left
  · intro w hSw
    go_simp
    first | (with_reducible rfl) | (rw [if_neg (by first | omega | (simp; omega))])
  refine wpAnyH_take (i := 2) (v := ?_) rfl (by kernel_rfl) (by kernel_rfl) (by kernel_rfl) (fun _ _ _ h => h) (Or.inl ⟨by kernel_rfl, ?_⟩) hHeld ?_
  rotate_left
  · intro w hSw
    go_simp
    first | (with_reducible rfl) | (rw [if_neg (by first | omega | (simp; omega))])
  refine wpAnyH_take (i := 4) (v := ?_) rfl (by kernel_rfl) (by kernel_rfl) (by kernel_rfl) (fun _ _ _ h => h) (Or.inl ⟨by kernel_rfl, ?_⟩) hHeld ?_
  rotate_left
  · intro w hSw
    have hl := ld_ctxS hSw.x
    go_simp
    first | (with_reducible rfl) | (rw [if_neg (by first | omega | (simp; omega))])
  refine wpAnyH_take (i := 5) (v := ?_) rfl (by kernel_rfl) (by kernel_rfl) (by kernel_rfl) (fun _ _ _ h => h) (Or.inl ⟨by kernel_rfl, ?_⟩) hHeld ?_
  rotate_left
  · intro w hSw
    go_simp
    first | (with_reducible rfl) | (rw [if_neg (by first | omega | (simp; omega))])
  refine wpAnyH_take (i := 6) (v := ?_) rfl (by kernel_rfl) (by kernel_rfl) (by kernel_rfl) (fun _ _ _ h => h) (Or.inl ⟨by kernel_rfl, ?_⟩) hHeld ?_
  rotate_left
  · intro w hSw
    go_simp
    first | (with_reducible rfl) | (rw [if_neg (by first | omega | (simp; omega))])
  refine wpAnyH_ready (rs := [3]) (by kernel_rfl) (by simp) ?_
  refine AllReadyH.cons rfl (fun K hK => ?_) AllReadyH.nil
  go_simp
  refine (V1.out _ HB.out).mono ?_
  rintro e wl ⟨Aa, ca, rfl, hA, hb⟩
  have HAa := Lib.hid hA
  have HB := Lib.hid (below_then HB.out hb)
  have hh := hHeld.below hb
  clear hb hA
  go_simp
  refine hK.out _ _ hh (fun hHeld => ?_)
  clear hK K
  clear hh
  refine wpAnyH_ready (rs := [7]) (by kernel_rfl) (by simp) ?_
  refine AllReadyH.cons rfl (fun K hK => ?_) AllReadyH.nil
  go_simp
  refine (Q1.out _ HB.out).mono ?_
  rintro e wl ⟨Ab, cb, rfl, hA, hb⟩
  have HAb := Lib.hid hA
  have HAa := Lib.hid (HAa.out.below hb)
  have HB := Lib.hid (below_then HB.out hb)
  have hh := hHeld.below hb
  clear hb hA
  go_simp
  refine hK.out _ _ hh (fun hHeld => ?_)
  clear hK K
  clear hh
  refine wpAnyH_ready (rs := [8]) (by kernel_rfl) (by simp) ?_
  refine AllReadyH.cons rfl (fun K hK => ?_) AllReadyH.nil
  go_simp
  refine (rsame R1 Aa Ab R1.ps.length ca cb rfl L1.out _ HAa.out HAb.out).mono ?_
  rintro e wl ⟨rfl, hb⟩
  have HB := Lib.hid (below_then HB.out hb)
  have hh := hHeld.below hb
  clear hb HAa HAb
  go_simp
  refine hK.out _ _ hh (fun hHeld => ?_)
  clear hK K
  clear hh V1 Q1 L1
  refine wpAnyH_take (i := 9) (v := ?_) rfl (by kernel_rfl) (by kernel_rfl) (by kernel_rfl) (fun _ _ _ h => h) (Or.inl ⟨by kernel_rfl, ?_⟩) hHeld ?_
  rotate_left
  · intro w hSw
    go_simp
    first | (with_reducible rfl) | (rw [if_neg (by first | omega | (simp; omega))])
  refine wpAnyH_take (i := 10) (v := ?_) rfl (by kernel_rfl) (by kernel_rfl) (by kernel_rfl) (fun _ _ _ h => h) (Or.inl ⟨by kernel_rfl, ?_⟩) hHeld ?_
  rotate_left
  · intro w hSw
    have hl := ld_ctxS hSw.y
    go_simp
    first | (with_reducible rfl) | (rw [if_neg (by first | omega | (simp; omega))])
  refine wpAnyH_take (i := 11) (v := ?_) rfl (by kernel_rfl) (by kernel_rfl) (by kernel_rfl) (fun _ _ _ h => h) (Or.inl ⟨by kernel_rfl, ?_⟩) hHeld ?_
  rotate_left
  · intro w hSw
    go_simp
    first | (with_reducible rfl) | (rw [if_neg (by first | omega | (simp; omega))])
  refine wpAnyH_take (i := 12) (v := ?_) rfl (by kernel_rfl) (by kernel_rfl) (by kernel_rfl) (fun _ _ _ h => h) (Or.inl ⟨by kernel_rfl, ?_⟩) hHeld ?_
  rotate_left
  · intro w hSw
    go_simp
    first | (with_reducible rfl) | (rw [if_neg (by first | omega | (simp; omega))])
  refine wpAnyH_take (i := 14) (v := ?_) rfl (by kernel_rfl) (by kernel_rfl) (by kernel_rfl) (fun _ _ _ h => h) (Or.inl ⟨by kernel_rfl, ?_⟩) hHeld ?_
  rotate_left
  · intro w hSw
    have hl := ld_ctxS hSw.y
    go_simp
    first | (with_reducible rfl) | (rw [if_neg (by first | omega | (simp; omega))])
  refine wpAnyH_take (i := 15) (v := ?_) rfl (by kernel_rfl) (by kernel_rfl) (by kernel_rfl) (fun _ _ _ h => h) (Or.inl ⟨by kernel_rfl, ?_⟩) hHeld ?_
  rotate_left
  · intro w hSw
    go_simp
    first | (with_reducible rfl) | (rw [if_neg (by first | omega | (simp; omega))])
  refine wpAnyH_take (i := 16) (v := ?_) rfl (by kernel_rfl) (by kernel_rfl) (by kernel_rfl) (fun _ _ _ h => h) (Or.inl ⟨by kernel_rfl, ?_⟩) hHeld ?_
  rotate_left
  · intro w hSw
    go_simp
    first | (with_reducible rfl) | (rw [if_neg (by first | omega | (simp; omega))])
  refine wpAnyH_ready (rs := [13]) (by kernel_rfl) (by simp) ?_
  refine AllReadyH.cons rfl (fun K hK => ?_) AllReadyH.nil
  go_simp
  refine (V2.out _ HB.out).mono ?_
  rintro e wl ⟨Aa, ca, rfl, hA, hb⟩
  have HAa := Lib.hid hA
  have HB := Lib.hid (below_then HB.out hb)
  have hh := hHeld.below hb
  clear hb hA
  go_simp
  refine hK.out _ _ hh (fun hHeld => ?_)
  clear hK K
  clear hh
  refine wpAnyH_ready (rs := [17]) (by kernel_rfl) (by simp) ?_
  refine AllReadyH.cons rfl (fun K hK => ?_) AllReadyH.nil
  go_simp
  refine (Q2.out _ HB.out).mono ?_
  rintro e wl ⟨Ab, cb, rfl, hA, hb⟩
  have HAb := Lib.hid hA
  have HAa := Lib.hid (HAa.out.below hb)
  have HB := Lib.hid (below_then HB.out hb)
  have hh := hHeld.below hb
  clear hb hA
  go_simp
  refine hK.out _ _ hh (fun hHeld => ?_)
  clear hK K
  clear hh
  refine wpAnyH_ready (rs := [18]) (by kernel_rfl) (by simp) ?_
  refine AllReadyH.cons rfl (fun K hK => ?_) AllReadyH.nil
  go_simp
  refine (rsame R2 Aa Ab R2.ps.length ca cb rfl L2.out _ HAa.out HAb.out).mono ?_
  rintro e wl ⟨rfl, hb⟩
  have HB := Lib.hid (below_then HB.out hb)
  have hh := hHeld.below hb
  clear hb HAa HAb
  go_simp
  refine hK.out _ _ hh (fun hHeld => ?_)
  clear hK K
  clear hh V2 Q2 L2
  refine wpAnyH_take (i := 19) (v := ?_) rfl (by kernel_rfl) (by kernel_rfl) (by kernel_rfl) (fun _ _ _ h => h) (Or.inl ⟨by kernel_rfl, ?_⟩) hHeld ?_
  rotate_left
  · intro w hSw
    go_simp
    first | (with_reducible rfl) | (rw [if_neg (by first | omega | (simp; omega))])
  refine wpAnyH_take (i := 20) (v := ?_) rfl (by kernel_rfl) (by kernel_rfl) (by kernel_rfl) (fun _ _ _ h => h) (Or.inl ⟨by kernel_rfl, ?_⟩) hHeld ?_
  rotate_left
  · intro w hSw
    go_simp
    first | (with_reducible rfl) | (rw [if_neg (by first | omega | (simp; omega))])
  refine wpAnyH_take (i := 21) (v := ?_) rfl (by kernel_rfl) (by kernel_rfl) (by kernel_rfl) (fun _ _ _ h => h) (Or.inl ⟨by kernel_rfl, ?_⟩) hHeld ?_
  rotate_left
  · intro w hSw
    go_simp
    first | (with_reducible rfl) | (rw [if_neg (by first | omega | (simp; omega))])
  refine wpAnyH_take (i := 22) (v := ?_) rfl (by kernel_rfl) (by kernel_rfl) (by kernel_rfl) (fun _ _ _ h => h) (Or.inl ⟨by kernel_rfl, ?_⟩) hHeld ?_
  rotate_left
  · intro w hSw
    have hl := ld_rulS hSw.r
    go_simp
    first | (with_reducible rfl) | (rw [if_neg (by first | omega | (simp; omega))])
  refine wpAnyH_take (i := 23) (v := ?_) rfl (by kernel_rfl) (by kernel_rfl) (by kernel_rfl) (fun _ _ _ h => h) (Or.inl ⟨by kernel_rfl, ?_⟩) hHeld ?_
  rotate_left
  · intro w hSw
    have hl := ld_blS hSw.c
    go_simp
    first | (with_reducible rfl) | (rw [if_neg (by first | omega | (simp; omega))])
  refine wpAnyH_take (i := 24) (v := ?_) rfl (by kernel_rfl) (by kernel_rfl) (by kernel_rfl) (fun _ _ _ h => h) (Or.inl ⟨by kernel_rfl, ?_⟩) hHeld ?_
  rotate_left
  · intro w hSw
    go_simp
    first | (with_reducible rfl) | (rw [if_neg (by first | omega | (simp; omega))])
  refine wpAnyH_take (i := 25) (v := ?_) rfl (by kernel_rfl) (by kernel_rfl) (by kernel_rfl) (fun _ _ _ h => h) (Or.inl ⟨by kernel_rfl, ?_⟩) hHeld ?_
  rotate_left
  · intro w hSw
    go_simp
    first | (with_reducible rfl) | (rw [if_neg (by first | omega | (simp; omega))])
  refine wpAnyH_take (i := 27) (v := ?_) rfl (by kernel_rfl) (by kernel_rfl) (by kernel_rfl) (fun _ _ _ h => h) (Or.inl ⟨by kernel_rfl, ?_⟩) hHeld ?_
  rotate_left
  · intro w hSw
    go_simp
    first | (with_reducible rfl) | (rw [if_neg (by first | omega | (simp; omega))])
  refine wpAnyH_take (i := 28) (v := ?_) rfl (by kernel_rfl) (by kernel_rfl) (by kernel_rfl) (fun _ _ _ h => h) (Or.inl ⟨by kernel_rfl, ?_⟩) hHeld ?_
  rotate_left
  · intro w hSw
    have hl := ld_rulS hSw.r
    go_simp
    first | (with_reducible rfl) | (rw [if_neg (by first | omega | (simp; omega))])
  refine wpAnyH_take (i := 29) (v := ?_) rfl (by kernel_rfl) (by kernel_rfl) (by kernel_rfl) (fun _ _ _ h => h) (Or.inl ⟨by kernel_rfl, ?_⟩) hHeld ?_
  rotate_left
  · intro w hSw
    have hl := ld_blS hSw.c
    go_simp
    first | (with_reducible rfl) | (rw [if_neg (by first | omega | (simp; omega))])
  refine wpAnyH_take (i := 30) (v := ?_) rfl (by kernel_rfl) (by kernel_rfl) (by kernel_rfl) (fun _ _ _ h => h) (Or.inl ⟨by kernel_rfl, ?_⟩) hHeld ?_
  rotate_left
  · intro w hSw
    go_simp
    first | (with_reducible rfl) | (rw [if_neg (by first | omega | (simp; omega))])
  refine wpAnyH_take (i := 31) (v := ?_) rfl (by kernel_rfl) (by kernel_rfl) (by kernel_rfl) (fun _ _ _ h => h) (Or.inl ⟨by kernel_rfl, ?_⟩) hHeld ?_
  rotate_left
  · intro w hSw
    go_simp
    first | (with_reducible rfl) | (rw [if_neg (by first | omega | (simp; omega))])
  refine wpAnyH_ready (rs := [26]) (by kernel_rfl) (by simp) ?_
  refine AllReadyH.cons rfl (fun K hK => ?_) AllReadyH.nil
  go_simp
  refine (V3.out _ HB.out).mono ?_
  rintro e wl ⟨Aa, ca, rfl, hA, hb⟩
  have HAa := Lib.hid hA
  have HB := Lib.hid (below_then HB.out hb)
  have hh := hHeld.below hb
  clear hb hA
  go_simp
  refine hK.out _ _ hh (fun hHeld => ?_)
  clear hK K
  clear hh
  refine wpAnyH_ready (rs := [32]) (by kernel_rfl) (by simp) ?_
  refine AllReadyH.cons rfl (fun K hK => ?_) AllReadyH.nil
  go_simp
  refine (Q3.out _ HB.out).mono ?_
  rintro e wl ⟨Ab, cb, rfl, hA, hb⟩
  have HAb := Lib.hid hA
  have HAa := Lib.hid (HAa.out.below hb)
  have HB := Lib.hid (below_then HB.out hb)
  have hh := hHeld.below hb
  clear hb hA
  go_simp
  refine hK.out _ _ hh (fun hHeld => ?_)
  clear hK K
  clear hh
  refine wpAnyH_ready (rs := [33]) (by kernel_rfl) (by simp) ?_
  refine AllReadyH.cons rfl (fun K hK => ?_) AllReadyH.nil
  go_simp
  refine (rsame R3 Aa Ab R3.ps.length ca cb rfl L3.out _ HAa.out HAb.out).mono ?_
  rintro e wl ⟨rfl, hb⟩
  have HB := Lib.hid (below_then HB.out hb)
  have hh := hHeld.below hb
  clear hb HAa HAb
  go_simp
  refine hK.out _ _ hh (fun hHeld => ?_)
  clear hK K
  clear hh V3 Q3 L3
  refine wpAnyH_take (i := 34) (v := ?_) rfl (by kernel_rfl) (by kernel_rfl) (by kernel_rfl) (fun _ _ _ h => h) (Or.inl ⟨by kernel_rfl, ?_⟩) hHeld ?_
  rotate_left
  · intro w hSw
    go_simp
    first | (with_reducible rfl) | (rw [if_neg (by first | omega | (simp; omega))])
  refine wpAnyH_take (i := 35) (v := ?_) rfl (by kernel_rfl) (by kernel_rfl) (by kernel_rfl) (fun _ _ _ h => h) (Or.inl ⟨by kernel_rfl, ?_⟩) hHeld ?_
  rotate_left
  · intro w hSw
    go_simp
    first | (with_reducible rfl) | (rw [if_neg (by first | omega | (simp; omega))])
  refine wpAnyH_take (i := 36) (v := ?_) rfl (by kernel_rfl) (by kernel_rfl) (by kernel_rfl) (fun _ _ _ h => h) (Or.inl ⟨by kernel_rfl, ?_⟩) hHeld ?_
  rotate_left
  · intro w hSw
    go_simp
    first | (with_reducible rfl) | (rw [if_neg (by first | omega | (simp; omega))])
  refine wpAnyH_take (i := 37) (v := ?_) rfl (by kernel_rfl) (by kernel_rfl) (by kernel_rfl) (fun _ _ _ h => h) (Or.inl ⟨by kernel_rfl, ?_⟩) hHeld ?_
  rotate_left
  · intro w hSw
    go_simp
    first | (with_reducible rfl) | (rw [if_neg (by first | omega | (simp; omega))])
  refine wpAnyH_take (i := 38) (v := ?_) rfl (by kernel_rfl) (by kernel_rfl) (by kernel_rfl) (fun _ _ _ h => h) (Or.inl ⟨by kernel_rfl, ?_⟩) hHeld ?_
  rotate_left
  · intro w hSw
    have hl := ld_blS hSw.c
    go_simp
    first | (with_reducible rfl) | (rw [if_neg (by first | omega | (simp; omega))])
  refine wpAnyH_take (i := 39) (v := ?_) rfl (by kernel_rfl) (by kernel_rfl) (by kernel_rfl) (fun _ _ _ h => h) (Or.inl ⟨by kernel_rfl, ?_⟩) hHeld ?_
  rotate_left
  · intro w hSw
    go_simp
    first | (with_reducible rfl) | (rw [if_neg (by first | omega | (simp; omega))])
  refine wpAnyH_take (i := 40) (v := ?_) rfl (by kernel_rfl) (by kernel_rfl) (by kernel_rfl) (fun _ _ _ h => h) (Or.inl ⟨by kernel_rfl, ?_⟩) hHeld ?_
  rotate_left
  · intro w hSw
    go_simp
    first | (with_reducible rfl) | (rw [if_neg (by first | omega | (simp; omega))])
  refine wpAnyH_take (i := 42) (v := ?_) rfl (by kernel_rfl) (by kernel_rfl) (by kernel_rfl) (fun _ _ _ h => h) (Or.inl ⟨by kernel_rfl, ?_⟩) hHeld ?_
  rotate_left
  · intro w hSw
    go_simp
    first | (with_reducible rfl) | (rw [if_neg (by first | omega | (simp; omega))])
  refine wpAnyH_take (i := 43) (v := ?_) rfl (by kernel_rfl) (by kernel_rfl) (by kernel_rfl) (fun _ _ _ h => h) (Or.inl ⟨by kernel_rfl, ?_⟩) hHeld ?_
  rotate_left
  · intro w hSw
    go_simp
    first | (with_reducible rfl) | (rw [if_neg (by first | omega | (simp; omega))])
  refine wpAnyH_take (i := 44) (v := ?_) rfl (by kernel_rfl) (by kernel_rfl) (by kernel_rfl) (fun _ _ _ h => h) (Or.inl ⟨by kernel_rfl, ?_⟩) hHeld ?_
  rotate_left
  · intro w hSw
    have hl := ld_blS hSw.c
    go_simp
    first | (with_reducible rfl) | (rw [if_neg (by first | omega | (simp; omega))])
  refine wpAnyH_take (i := 45) (v := ?_) rfl (by kernel_rfl) (by kernel_rfl) (by kernel_rfl) (fun _ _ _ h => h) (Or.inl ⟨by kernel_rfl, ?_⟩) hHeld ?_
  rotate_left
  · intro w hSw
    go_simp
    first | (with_reducible rfl) | (rw [if_neg (by first | omega | (simp; omega))])
  refine wpAnyH_take (i := 46) (v := ?_) rfl (by kernel_rfl) (by kernel_rfl) (by kernel_rfl) (fun _ _ _ h => h) (Or.inl ⟨by kernel_rfl, ?_⟩) hHeld ?_
  rotate_left
  · intro w hSw
    go_simp
    first | (with_reducible rfl) | (rw [if_neg (by first | omega | (simp; omega))])
  refine wpAnyH_ready (rs := [41]) (by kernel_rfl) (by simp) ?_
  refine AllReadyH.cons rfl (fun K hK => ?_) AllReadyH.nil
  go_simp
  refine (V4.out _ HB.out).mono ?_
  rintro e wl ⟨Aa, ca, rfl, hA, hb⟩
  have HAa := Lib.hid hA
  have HB := Lib.hid (below_then HB.out hb)
  have hh := hHeld.below hb
  clear hb hA
  go_simp
  refine hK.out _ _ hh (fun hHeld => ?_)
  clear hK K
  clear hh
  refine wpAnyH_ready (rs := [47]) (by kernel_rfl) (by simp) ?_
  refine AllReadyH.cons rfl (fun K hK => ?_) AllReadyH.nil
  go_simp
  refine (Q4.out _ HB.out).mono ?_
  rintro e wl ⟨Ab, cb, rfl, hA, hb⟩
  have HAb := Lib.hid hA
  have HAa := Lib.hid (HAa.out.below hb)
  have HB := Lib.hid (below_then HB.out hb)
  have hh := hHeld.below hb
  clear hb hA
  go_simp
  refine hK.out _ _ hh (fun hHeld => ?_)
  clear hK K
  clear hh
  refine wpAnyH_ready (rs := [48]) (by kernel_rfl) (by simp) ?_
  refine AllReadyH.cons rfl (fun K hK => ?_) AllReadyH.nil
  go_simp
  refine (rsame R4 Aa Ab R4.ps.length ca cb rfl L4.out _ HAa.out HAb.out).mono ?_
  rintro e wl ⟨rfl, hb⟩
  have HB := Lib.hid (below_then HB.out hb)
  have hh := hHeld.below hb
  clear hb HAa HAb
  go_simp
  refine hK.out _ _ hh (fun hHeld => ?_)
  clear hK K
  clear hh V4 Q4 L4
  refine wpAnyH_take (i := 49) (v := ?_) rfl (by kernel_rfl) (by kernel_rfl) (by kernel_rfl) (fun _ _ _ h => h) (Or.inl ⟨by kernel_rfl, ?_⟩) hHeld ?_
  rotate_left
  · intro w hSw
    go_simp
    first | (with_reducible rfl) | (rw [if_neg (by first | omega | (simp; omega))])
  refine wpAnyH_take (i := 50) (v := ?_) rfl (by kernel_rfl) (by kernel_rfl) (by kernel_rfl) (fun _ _ _ h => h) (Or.inl ⟨by kernel_rfl, ?_⟩) hHeld ?_
  rotate_left
  · intro w hSw
    go_simp
    first | (with_reducible rfl) | (rw [if_neg (by first | omega | (simp; omega))])
  refine wpAnyH_take (i := 51) (v := ?_) rfl (by kernel_rfl) (by kernel_rfl) (by kernel_rfl) (fun _ _ _ h => h) (Or.inl ⟨by kernel_rfl, ?_⟩) hHeld ?_
  rotate_left
  · intro w hSw
    have hl := ld_loS hSw.l
    go_simp
    first | (with_reducible rfl) | (rw [if_neg (by first | omega | (simp; omega))])
  refine wpAnyH_take (i := 52) (v := ?_) rfl (by kernel_rfl) (by kernel_rfl) (by kernel_rfl) (fun _ _ _ h => h) (Or.inl ⟨by kernel_rfl, ?_⟩) hHeld ?_
  rotate_left
  · intro w hSw
    go_simp
    first | (with_reducible rfl) | (rw [if_neg (by first | omega | (simp; omega))])
  refine wpAnyH_take (i := 54) (v := ?_) rfl (by kernel_rfl) (by kernel_rfl) (by kernel_rfl) (fun _ _ _ h => h) (Or.inl ⟨by kernel_rfl, ?_⟩) hHeld ?_
  rotate_left
  · intro w hSw
    have hl := ld_loS hSw.l
    go_simp
    first | (with_reducible rfl) | (rw [if_neg (by first | omega | (simp; omega))])
  refine wpAnyH_take (i := 55) (v := ?_) rfl (by kernel_rfl) (by kernel_rfl) (by kernel_rfl) (fun _ _ _ h => h) (Or.inl ⟨by kernel_rfl, ?_⟩) hHeld ?_
  rotate_left
  · intro w hSw
    go_simp
    first | (with_reducible rfl) | (rw [if_neg (by first | omega | (simp; omega))])
  refine wpAnyH_ready (rs := [53]) (by kernel_rfl) (by simp) ?_
  refine AllReadyH.cons rfl (fun K hK => ?_) AllReadyH.nil
  go_simp
  refine (V5.out _ HB.out).mono ?_
  rintro e wl ⟨Aa, ca, rfl, hA, hb⟩
  have HAa := Lib.hid hA
  have HB := Lib.hid (below_then HB.out hb)
  have hh := hHeld.below hb
  clear hb hA
  go_simp
  refine hK.out _ _ hh (fun hHeld => ?_)
  clear hK K
  clear hh
  refine wpAnyH_ready (rs := [56]) (by kernel_rfl) (by simp) ?_
  refine AllReadyH.cons rfl (fun K hK => ?_) AllReadyH.nil
  go_simp
  refine (Q5.out _ HB.out).mono ?_
  rintro e wl ⟨Ab, cb, rfl, hA, hb⟩
  have HAb := Lib.hid hA
  have HAa := Lib.hid (HAa.out.below hb)
  have HB := Lib.hid (below_then HB.out hb)
  have hh := hHeld.below hb
  clear hb hA
  go_simp
  refine hK.out _ _ hh (fun hHeld => ?_)
  clear hK K
  clear hh
  refine wpAnyH_ready (rs := [57]) (by kernel_rfl) (by simp) ?_
  refine AllReadyH.cons rfl (fun K hK => ?_) AllReadyH.nil
  go_simp
  refine (rsame R5 Aa Ab R5.ps.length ca cb rfl L5.out _ HAa.out HAb.out).mono ?_
  rintro e wl ⟨rfl, hb⟩
  have HB := Lib.hid (below_then HB.out hb)
  have hh := hHeld.below hb
  clear hb HAa HAb
  go_simp
  refine hK.out _ _ hh (fun hHeld => ?_)
  clear hK K
  clear hh V5 Q5 L5
  refine wpAnyH_take (i := 58) (v := ?_) rfl (by kernel_rfl) (by kernel_rfl) (by kernel_rfl) (fun _ _ _ h => h) (Or.inl ⟨by kernel_rfl, ?_⟩) hHeld ?_
  rotate_left
  · intro w hSw
    go_simp
    first | (with_reducible rfl) | (rw [if_neg (by first | omega | (simp; omega))])
  refine wpAnyH_take (i := 59) (v := ?_) rfl (by kernel_rfl) (by kernel_rfl) (by kernel_rfl) (fun _ _ _ h => h) (Or.inl ⟨by kernel_rfl, ?_⟩) hHeld ?_
  rotate_left
  · intro w hSw
    go_simp
    first | (with_reducible rfl) | (rw [if_neg (by first | omega | (simp; omega))])
  refine wpAnyH_ready (rs := [60]) (by kernel_rfl) (by simp) ?_
  refine AllReadyH.cons rfl (fun K hK => ?_) AllReadyH.nil
  go_simp
  refine (HAW0.out _ HB.out).mono ?_
  rintro e wl ⟨rfl, hb⟩
  have HB := Lib.hid (below_then HB.out hb)
  have hh := hHeld.below hb
  clear hb
  go_simp
  refine hK.out _ _ hh (fun hHeld => ?_)
  clear hK K
  clear hh
  refine wpAnyH_take (i := 61) (v := ?_) rfl (by kernel_rfl) (by kernel_rfl) (by kernel_rfl) (fun _ _ _ h => h) (Or.inl ⟨by kernel_rfl, ?_⟩) hHeld ?_
  rotate_left
  · intro w hSw
    go_simp
    first | (with_reducible rfl) | (rw [if_neg (by first | omega | (simp; omega))])
  refine wpAnyH_take (i := 62) (v := ?_) rfl (by kernel_rfl) (by kernel_rfl) (by kernel_rfl) (fun _ _ _ h => h) (Or.inl ⟨by kernel_rfl, ?_⟩) hHeld ?_
  rotate_left
  · intro w hSw
    go_simp
    first | (with_reducible rfl) | (rw [if_neg (by first | omega | (simp; omega))])
  refine wpAnyH_done (by kernel_rfl) ?_ _
  go_wp2_with fail
  go_ret
  exact ⟨rfl, below_then HLW.out HB.out⟩
end Go.Proofs.YtollifnnpihfdaaGreatDoor

/- The walk of the law FieldItems. -/
import Derived.Test.YtnpaoepkpdileaaDoorFieldBSt
import Derived.Test.YtnpaoepkpdileaaDoorFieldLaws
namespace Go.Proofs.YtnpaoepkpdileaaDoor
open Go.RowKit
theorem lw_test {w : World} {g : Nat} {fd op nu : Int} {tx : ByteArray} {ot : Int} (h : TestB w g fd op nu tx ot) : (loadVar 23 ⟨g, 0, none⟩).run Tryd.prog w = .ok (.agg (testC fd op nu tx ot)) w := run_loadVar_row w g _ _ _ _ _ h Tryd.underlying23 rfl (test_sz _ _ _ _ _)
theorem own_cap {w : World} {base n cp : Nat} {A : Option Addr} {L : List (Itm × IRest)} (h : OwnI w base (.slice A n cp) L) : L.length ≤ cp := by
  rcases h.2 with ⟨e, h0⟩ | ⟨g, cap, cur, hv, _, _, hle, _⟩
  · injection e with e1 e2 e3; omega
  · injection hv with e1 e2 e3; omega
theorem BSt.ph {w wr : World} {gc : Nat} {b : Int} {c : Ctx} {r : CRest} {A : Option Addr} {cp : Nat} {L : List (Itm × IRest)} (h : BSt w wr gc b c r A cp L) (x : Int) : BSt w (wr.setCell ⟨gc, 0, none⟩ (.int .i64 x)) gc b { c with ph := x } r A cp L :=
  ⟨h.low.setCell (by show w.heap.size ≤ gc; have := h.hg; omega) _, h.src.setCell (by show w.heap.size ≤ gc; have := h.hg; omega) (by show gc ≠ w.heap.size; have := h.hg; omega) _, Blk.put h.cb 0 (.int .i64 x), h.it.keep ((Below.refl gc wr).setCell (Nat.le_refl _) _) (Nat.le_refl _), h.nb, h.hg⟩
/-- What the law keeps: the context and the test. -/
structure ISt (w wr : World) (gc gt : Nat) (b : Int) (c : Ctx) (r : CRest) (A : Option Addr) (cp : Nat) (L : List (Itm × IRest)) (fd op nu ot : Int) : Prop where
  st : BSt w wr gc b c r A cp L
  tb : TestB wr gt fd op nu ⟨#[]⟩ ot
section
variable {w wr w' : World} {gc gt : Nat} {b b' : Int} {c : Ctx} {r : CRest} {A : Option Addr} {cp : Nat} {L : List (Itm × IRest)} {fd op nu ot : Int}
theorem ISt.below (h : ISt w wr gc gt b c r A cp L fd op nu ot) (hb : Below wr.heap.size wr w') : ISt w w' gc gt b c r A cp L fd op nu ot := ⟨h.st.below hb, Blk.below h.tb hb⟩
theorem ISt.step (h : ISt w wr gc gt b c r A cp L fd op nu ot) (hs : SrcOk w' w.heap.size w.heap.size b') (hg : wr.grownBy w' (some w.heap.size)) (hne : gt ≠ w.heap.size) : ISt w w' gc gt b' c r A cp L fd op nu ot := ⟨h.st.step hs hg, Blk.grown h.tb hg (fun e => by injection e with e; omega)⟩
theorem ISt.more (h : ISt w wr gc gt b c r A cp L fd op nu ot) (hb : b ≤ b') : ISt w wr gc gt b' c r A cp L fd op nu ot := ⟨h.st.more hb, h.tb⟩
theorem ISt.ph (h : ISt w wr gc gt b c r A cp L fd op nu ot) (hne : gt ≠ gc) (x : Int) : ISt w (wr.setCell ⟨gc, 0, none⟩ (.int .i64 x)) gc gt b { c with ph := x } r A cp L fd op nu ot := ⟨h.st.ph x, Blk.put_other h.tb _ hne⟩
theorem BSt.setAt (h : BSt w wr gc b c r A cp L) {p : Addr} (hp : gc < p.block) (v : Value) : BSt w (wr.setCell p v) gc b c r A cp L :=
  ⟨h.low.setCell (by have := h.hg; omega) _, h.src.setCell (by have := h.hg; omega) (by have := h.hg; omega) _, Blk.put_other h.cb _ (by omega), h.it.keep ((Below.refl gc wr).setCell (by omega) _) (Nat.le_refl _), h.nb, h.hg⟩
theorem ISt.sets (h : ISt w wr gc gt b c r A cp L fd op nu ot) (hg : gc < gt) (fd' op' nu' ot' : Int) : ISt w (((((wr.setCell ⟨gt, 0, none⟩ (.int .i64 fd')).setCell ⟨gt, 1, none⟩ (.int .i64 op')).setCell ⟨gt, 2, none⟩ (.int .i64 nu')).setCell ⟨gt, 3, none⟩ (.string ⟨#[]⟩)).setCell ⟨gt, 4, none⟩ (.int .i64 ot')) gc gt b c r A cp L fd' op' nu' ot' :=
  ⟨((((h.st.setAt (p := ⟨gt, 0, none⟩) hg _).setAt (p := ⟨gt, 1, none⟩) hg _).setAt (p := ⟨gt, 2, none⟩) hg _).setAt (p := ⟨gt, 3, none⟩) hg _).setAt (p := ⟨gt, 4, none⟩) hg _,
    Blk.put (Blk.put (Blk.put (Blk.put (Blk.put h.tb 0 (.int .i64 fd')) 1 (.int .i64 op')) 2 (.int .i64 nu')) 3 (.string ⟨#[]⟩)) 4 (.int .i64 ot')⟩
end
/-- One item alone. -/
theorem ItemsAt.one {w : World} {B : Nat} {A : Option Addr} {L : List (Itm × IRest)} (h : ItemsAt w B A L) (k : Nat) (hk : k < L.length) : ∃ ad : Addr, A = some ad ∧ ItemsAt w B (some (ad.add (k * 13))) [L[k]] := by
  obtain ⟨ad, e, hl, hc⟩ := h k hk
  refine ⟨ad, e, fun j hj => ⟨_, rfl, by rw [add_block]; exact hl, fun q hq => ?_⟩⟩
  have : j = 0 := by simp at hj; omega
  subst this
  simpa [Addr.add_zero'] using hc q hq
theorem any_step {L : List (Itm × IRest)} {k : Nat} (hk : k < L.length) (f : Itm → Bool) : ((L.take (k + 1)).any fun p => f p.1) = (((L.take k).any fun p => f p.1) || f (L[k]'hk).1) := by
  rw [List.take_succ_eq_append_getElem hk, List.any_append]; simp
/-- Eval of a test of items, in the law's words. -/
theorem veval_itm (c : Ctx) (r : CRest) (A : Option Addr) (n cp : Nat) (L : List (Itm × IRest)) (hn : n = L.length) (hL : L.length ≤ 2) (fd op nu ot : Int) (w : World) (hi : ItemsAt w w.heap.size A L) :
    Calls Tryd.prog 18 #[testV fd op nu ⟨#[]⟩ ot, ctxV c r (.slice A n cp)] w fun e w' => ∃ y, Hid (y = evalF c (L.map (·.1)) fd op nu ⟨#[]⟩ ot) ∧ e = .returned (.bool y) ∧ Below w.heap.size w w' := by
  refine (vevalF c r A n cp L hn (by omega) fd op nu ⟨#[]⟩ ot (by unfold maxLen; show 0 ≤ _; omega) w hi).mono ?_
  rintro e w' ⟨rfl, hb⟩
  exact ⟨_, Lib.hid (eval_same _ _ _ _ _ _ _), rfl, hb⟩
theorem any_map {L : List (Itm × IRest)} (f : Itm → Bool) : ((L.map (·.1)).any f) = (L.any fun p => f p.1) := by
  induction L with
  | nil => rfl
  | cons p L ih => simp [ih]
theorem CtxB.putI {w : World} {g : Nat} {c : Ctx} {r : CRest} {it : Value} (h : CtxB w g c r it) (v : Value) : CtxB (w.setCell ⟨g, 23, none⟩ v) g c r v := Blk.put h 23 v
theorem any_zero {L : List (Itm × IRest)} {f : Itm → Bool} (h : true = L.any fun p => f p.1) : L.length ≠ 0 := by
  intro e
  rw [List.eq_nil_of_length_eq_zero e] at h
  simp at h
theorem same_nil (A : Option Addr) (n cp : Nat) (hn : n ≤ 2) (w : World) : Calls Tryd.prog 20 #[.slice A n cp, .slice none 0 0] w fun e w' => e = .returned (.bool (n == 0)) ∧ w' = w := by
  by_cases h : n = 0
  · subst h
    go_enter Tryd.func20, Tryd.ntmps20
    go_wp2_with fail
    go_loopw [5] (fun i wr => i = .int .i64 0 ∧ wr = w) (fun _ _ => 0)
    case atStart => exact ⟨rfl, rfl⟩
    case round =>
      obtain ⟨rfl, rfl⟩ := hrel
      go_wp2_with fail
      go_ret
      exact ⟨rfl, rfl⟩
  · have hb : (n == 0) = false := by simpa using h
    have hi : ¬ ((n : Int) = 0) := by omega
    rw [hb]
    go_enter Tryd.func20, Tryd.ntmps20
    go_wp2_with fail
    go_ret
    exact ⟨rfl, rfl⟩
attribute [local irreducible] ctxC evalF evalP hasF cmpF valF
attribute [-go_sem] loadVar
attribute [local go_sem] lw3 lw9 lw33
set_option maxRecDepth 100000 in
set_option maxHeartbeats 8000000 in
theorem fieldItems_walk (w : World) (A : Option Addr) (n c : Nat) (hn : (n : Int) ≤ 9223372036854775807)
    (hl : ∀ k, k < n → ∃ (ad : Addr) (z : Int), A = some ad ∧ ad.block < w.heap.size ∧ w.cell? (ad.add k) = some (.int .i64 z) ∧ -9223372036854775808 ≤ z ∧ z ≤ 9223372036854775807) (hfn : FNames w) (hfo : FOps w) (htb : Tab w) (hpw : Pow w) :
    Calls Tryd.prog 6 #[.slice A n c] w fun e w' => e = .returned (.bool true) ∧ Below w.heap.size w w' := by
  have HL := Lib.hid hl
  have HN := Lib.hid hn
  have HAW := Lib.hid (fun (W : World) (h : Below w.heap.size w W) => awake12 W (hfn.below h) (hfo.below h) (htb.below h (Nat.le_refl _)) (hpw.below h (Nat.le_refl _)))
  clear hl hn hfn hfo htb hpw
  go_enter Tryd.func6, Tryd.ntmps6
  go_wp2_with fail
  refine (src_new _ A n c HN.out HL.out).mono ?_
  rintro e w1 ⟨rfl, hs1, hb1⟩
  have hlt1 := src_lt hs1
  have HS1 := Lib.hid hs1
  have HB1 := Lib.hid hb1
  clear hs1 hb1
  go_wp2_with fail
  refine (src_context _ w.heap.size w.heap.size 0 HS1.out (by omega)).mono ?_
  rintro e w2 ⟨cx, r, it, L, rfl, hL2, hown, hs2, hg2⟩
  obtain ⟨Ai, cp, rfl, hst⟩ := bst_new (c := cx) (r := r) HB1.out hlt1 hs2 hg2 hown
  have hcap := own_cap hown
  have HX := Blk.new w2 zeroX 35
  have HST := Lib.hid hst
  have f0 := Blk.free hst.cb 0
  have q0 := CtxB.ph hst.cb
  clear hown hs2 hg2 hst hlt1 HB1 HS1
  go_upto_region 3 with ((with_reducible refine store_blk ?_ 35 (.tmp 4) (.tmp 12) ?_ HX (ctxC cx r (.slice Ai L.length cp)) ?_ ?_ ?_ ?_ ?_ ?_); (iterate 4 rfl); (exact ctx_sz _ _ _); (exact ctx_old _ _ _); (exact ctx_one _ _ _ _ _))
  clear HX
  generalize (w2.alloc (.cells zeroX 35)).setRow w2.heap.size (ctxC cx r (.slice Ai L.length cp)) = w4 at *
  generalize w2.heap.size = gc at *
  have HST4 := Lib.hid (HST.out.ph 2)
  clear HST
  go_wp2_with fail
  clear f0 q0
  generalize w4.setCell ⟨gc, 0, none⟩ (.int .i64 2) = w5 at *
  generalize hcx : ({ cx with ph := 2 } : Ctx) = c2 at *
  have hph : c2.ph = 2 := by rw [← hcx]
  have HPH := Lib.hid hph
  have HCX := Lib.hid hcx
  clear hcx hph
  refine (src_range _ w.heap.size w.heap.size (0 + 500) 17 21 HST4.out.src (by omega) (by omega) (by omega) (by omega)).mono ?_
  rintro e w6 ⟨fd, rfl, fd0, fd1, hs6, hg6⟩
  have st6 := HST4.out.step hs6 hg6
  clear HST4 hs6 hg6
  go_wp2_with fail
  refine (src_range _ w.heap.size w.heap.size (0 + 500 + 1) 1 8 st6.src (by omega) (by omega) (by omega) (by omega)).mono ?_
  rintro e w7 ⟨op, rfl, _, _, hs7, hg7⟩
  have st7 := st6.step hs7 hg7
  clear st6 hs7 hg7
  go_wp2_with fail
  refine (src_pick _ w.heap.size w.heap.size w7.heap.size (0 + 500 + 1 + 1) 5 0 7 _ 3 (0, 0) (st7.src.alloc _) (by omega) (heap_alloc_new w7 _) (by have := src_lt st7.src; omega) rfl (by omega) (by omega) rfl).mono ?_
  rintro e w8 ⟨nu, rfl, _, _, hs8, hg8⟩
  have st8 := (st7.below ((Below.refl _ _).alloc (Nat.le_refl _) (.cells #[.int .i64 0, .int .i64 1, .int .i64 2, .int .i64 5, .int .i64 7] 3))).step hs8 hg8
  clear st7 hs8 hg8
  have hgc := Blk.lt st8.cb
  have st9 : ISt w (w8.alloc (.cells #[.int .i64 fd, .int .i64 op, .int .i64 nu, .string ⟨#[]⟩, .int .i64 0] 23)) gc w8.heap.size (0 + 500 + 1 + 1 + 1) c2 r Ai cp L fd op nu 0 :=
    ⟨st8.below ((Below.refl _ _).alloc (Nat.le_refl _) _), Blk.new w8 _ _⟩
  have HS9 := Lib.hid st9
  have hg8 : w.heap.size < w8.heap.size := by have := st8.hg; omega
  clear st8 st9
  go_wp2_with fail
  generalize w8.alloc (.cells #[.int .i64 fd, .int .i64 op, .int .i64 nu, .string ⟨#[]⟩, .int .i64 0] 23) = w9 at *
  generalize w8.heap.size = gt at *
  refine (src_n _ w.heap.size w.heap.size (0 + 500 + 1 + 1 + 1) 4 HS9.out.st.src (by omega) (by omega) (by omega)).mono ?_
  rintro e w10 ⟨y, rfl, y0, y1, hs, hg⟩
  have st10 := HS9.out.step hs hg (by omega)
  clear HS9 hs hg
  by_cases hy : y = 0
  · subst hy
    go_wp2_with fail
    refine (src_range _ w.heap.size w.heap.size (0 + 500 + 1 + 1 + 1 + 1) 1 2 st10.st.src (by omega) (by omega) (by omega) (by omega)).mono ?_
    rintro e w11 ⟨op2, rfl, _, _, hs, hg⟩
    have st11 := st10.step hs hg (by omega)
    clear st10 hs hg
    go_wp2_with fail
    refine (src_pick _ w.heap.size w.heap.size w11.heap.size (0 + 500 + 1 + 1 + 1 + 1 + 1) 4 3 20 _ 3 (0, 0) (st11.st.src.alloc _) (by omega) (heap_alloc_new w11 _) (by have := src_lt st11.st.src; omega) rfl (by omega) (by omega) rfl).mono ?_
    rintro e w12 ⟨ot, rfl, _, _, hs, hg⟩
    have st12 := (st11.below ((Below.refl _ _).alloc (Nat.le_refl _) (.cells #[.int .i64 3, .int .i64 4, .int .i64 7, .int .i64 20] 3))).step hs hg (by omega)
    clear st11 hs hg
    obtain ⟨t0, t1, t2, t3, t4⟩ := test_cells st12.tb
    have f0 := Blk.free st12.tb 0
    have f1 := Blk.free st12.tb 1
    have f2 := Blk.free st12.tb 2
    have f3 := Blk.free st12.tb 3
    have f4 := Blk.free st12.tb 4
    have st13 := (st12.sets hgc 19 op2 0 ot).more (show 0 + 500 + 1 + 1 + 1 + 1 + 1 + 1 ≤ (600 : Int) by omega)
    clear st12
    go_upto_region 7 with fail
    clear t0 t1 t2 t3 t4 f0 f1 f2 f3 f4
    generalize ((((w12.setCell ⟨gt, 0, none⟩ (.int .i64 19)).setCell ⟨gt, 1, none⟩ (.int .i64 op2)).setCell ⟨gt, 2, none⟩ (.int .i64 0)).setCell ⟨gt, 3, none⟩ (.string ⟨#[]⟩)).setCell ⟨gt, 4, none⟩ (.int .i64 ot) = wX at *
    obtain ⟨fX, opX, nuX, otX, hit, HSX⟩ : ∃ fX opX nuX otX, itemB fX = true ∧ Hid (ISt w wX gc gt 600 c2 r Ai cp L fX opX nuX otX) := ⟨19, op2, 0, ot, by decide, Lib.hid st13⟩
    clear st13
    go_wp2_with fail
    go_loopw [6, 7] (fun v i wr => ∃ (k : Nat) (sm : Bool), v = .bool sm ∧ i = .int .i64 (k : Int) ∧ k ≤ L.length ∧ Hid (sm = (L.take k).any fun p => evalF c2 [p.1] fX opX nuX ⟨#[]⟩ otX) ∧ ISt w wr gc gt 600 c2 r Ai cp L fX opX nuX otX) (fun _ i _ => L.length - (intOf i).toNat)
    case atStart => exact ⟨0, false, rfl, rfl, by omega, Lib.hid (by simp), HSX.out⟩
    case round =>
      obtain ⟨k, sm, rfl, rfl, hk, HSM, hst⟩ := hrel
      clear HSX
      have q23 := CtxB.items hst.st.cb
      by_cases hlt : k < L.length
      · obtain ⟨ad, rfl, hone⟩ := ItemsAt.one hst.st.it k hlt
        have hcb1 : CtxB ((wr.alloc (.cells zeroX 35)).setRow wr.heap.size (ctxC c2 r (.slice (some ad) L.length cp))) wr.heap.size c2 r (.slice (some ad) L.length cp) := (Blk.new wr _ _).row _
        have hb1 : Below wr.heap.size wr ((wr.alloc (.cells zeroX 35)).setRow wr.heap.size (ctxC c2 r (.slice (some ad) L.length cp))) := below_row ((Below.refl _ _).alloc (Nat.le_refl _) _) (Nat.le_refl _) _
        have st1 := hst.below hb1
        have hone1 := hone.keep hb1 (Nat.le_of_lt (Blk.lt hst.st.cb))
        have hgy : gc < wr.heap.size := Blk.lt hst.st.cb
        have hgy2 : gt < wr.heap.size := Blk.lt hst.tb
        have HX := Blk.new wr zeroX 35
        have ql := lw_ctx hst.st.cb
        clear hone hst hb1
        have hki : (k : Int) < (L.length : Int) := by omega
        go_upto_region 12 with ((with_reducible refine store_blk ?_ 35 (.tmp 8) (.tmp 38) ?_ HX (ctxC c2 r (.slice (some ad) L.length cp)) ?_ ?_ ?_ ?_ ?_ ?_); (iterate 4 rfl); (exact ctx_sz _ _ _); (exact ctx_old _ _ _); (exact ctx_one _ _ _ _ _))
        clear HX ql q23
        generalize (wr.alloc (.cells zeroX 35)).setRow wr.heap.size (ctxC c2 r (.slice (some ad) L.length cp)) = wy at *
        generalize wr.heap.size = gy at *
        have qa := CtxB.items st1.st.cb
        have fy := Blk.free hcb1 23
        have qy := CtxB.items hcb1
        go_upto_region 13 with fail
        have stz : ISt w (wy.setCell ⟨gy, 23, none⟩ (.slice (some (ad.add (k * 13))) 1 (cp - k))) gc gt 600 c2 r (some ad) cp L fX opX nuX otX := ⟨st1.st.setAt (p := ⟨gy, 23, none⟩) hgy _, Blk.put_other st1.tb _ (by show gt ≠ gy; omega)⟩
        have hcz := hcb1.putI (.slice (some (ad.add (k * 13))) 1 (cp - k))
        have hone2 := hone1.keep ((Below.refl gc wy).setCell (p := ⟨gy, 23, none⟩) (Nat.le_of_lt hgy) (.slice (some (ad.add (k * 13))) 1 (cp - k))) (Nat.le_refl _)
        have hstep := any_step hlt (fun i => evalF c2 [i] fX opX nuX ⟨#[]⟩ otX)
        have HSTEP := Lib.hid hstep
        clear hstep qa fy qy st1 hcb1 hone1 hki
        generalize wy.setCell ⟨gy, 23, none⟩ (.slice (some (ad.add (k * 13))) 1 (cp - k)) = wz at *
        cases sm with
        | true =>
          go_wp2_with fail
          go_roundw
          case rel => exact ⟨k + 1, true, rfl, by go_num, by omega, Lib.hid (by rw [HSTEP.out, ← HSM.out]; rfl), stz⟩
          case measure => simp [intOf]; omega
        | false =>
          have qt := lw_test stz.tb
          have ql := lw_ctx hcz
          go_wp2_with fail
          refine (veval_itm c2 r (some (ad.add (k * 13))) 1 (cp - k) [L[k]] rfl (by simp) fX opX nuX otX _ (hone2.more (Nat.le_of_lt (Blk.lt stz.st.cb)))).mono ?_
          rintro e wv ⟨y, HY, rfl, hbv⟩
          clear qt ql
          go_wp2_with fail
          go_roundw
          case rel => exact ⟨k + 1, y, rfl, by go_num, by omega, Lib.hid (by rw [HSTEP.out, ← HSM.out, HY.out]; rfl), stz.below hbv⟩
          case measure => simp [intOf]; omega
      · obtain rfl : k = L.length := by omega
        have HA : Hid (sm = L.any fun p => evalF c2 [p.1] fX opX nuX ⟨#[]⟩ otX) := Lib.hid (by rw [HSM.out, List.take_length])
        have qt := lw_test hst.tb
        have ql := lw_ctx hst.st.cb
        clear HSM hk hlt
        go_wp2_with fail
        refine (veval_itm c2 r Ai L.length cp L rfl hL2 fX opX nuX otX _ hst.st.items).mono ?_
        rintro e wv ⟨y, HY, rfl, hbv⟩
        obtain rfl : y = sm := by rw [HY.out, HA.out, eval_items hit, any_map]
        have stv := hst.below hbv
        clear qt ql hst hbv q23 HY
        have qv := CtxB.items stv.st.cb
        have qp := CtxB.ph stv.st.cb
        have fp := Blk.free stv.st.cb 0
        have stw := stv.ph (by omega) 1
        have htrue : y = true → L.length ≠ 0 := fun e => any_zero (f := fun i => evalF c2 [i] fX opX nuX ⟨#[]⟩ otX) (by rw [← HA.out, e])
        have hev : evalF { c2 with ph := 1 } (L.map (·.1)) fX opX nuX ⟨#[]⟩ otX = false := eval_entry hit (by show (1 : Int) ≠ 2; omega)
        have HEV := Lib.hid hev
        have HTR := Lib.hid htrue
        clear hev htrue HA
        have hyn : (y = true ∧ (L.length == 0) = false) ∨ (y = false ∧ (L.length == 0) = false) ∨ (y = false ∧ (L.length == 0) = true) := by
          cases y
          · by_cases h0 : L.length = 0
            · exact .inr (.inr ⟨rfl, by simpa using h0⟩)
            · exact .inr (.inl ⟨rfl, by simpa using h0⟩)
          · exact .inl ⟨rfl, by simpa using HTR.out rfl⟩
        clear HTR
        rcases hyn with ⟨rfl, HN0⟩ | ⟨rfl, HN0⟩ | ⟨rfl, HN0⟩
        all_goals
          go_wp2_with fail
          refine (same_nil Ai L.length cp hL2 _).mono ?_
          rintro e wu ⟨rfl, rfl⟩
          rw [HN0]
          clear HN0
          go_upto_region 17 with fail
          clear qv qp fp stv
          have qt := lw_test stw.tb
          have ql := lw_ctx stw.st.cb
          go_wp2_with fail
          refine (veval_itm _ r Ai L.length cp L rfl hL2 fX opX nuX otX _ stw.st.items).mono ?_
          rintro e wt ⟨y2, HY2, rfl, hbt⟩
          obtain rfl : y2 = false := by rw [HY2.out, HEV.out]
          have stt := stw.below hbt
          clear qt ql stw hbt HY2
          go_wp2_with fail
          refine (HAW.out _ stt.st.low).mono ?_
          rintro e wa ⟨rfl, hba⟩
          go_wp2_with fail
          go_ret
          exact ⟨rfl, below_then stt.st.low hba⟩
  · have yb : (y == 0) = false := by simpa using hy
    clear hy
    have st13 := st10.more (show 0 + 500 + 1 + 1 + 1 + 1 ≤ (600 : Int) by omega)
    clear st10
    generalize w10 = wX at *
    obtain ⟨fX, opX, nuX, otX, hit, HSX⟩ : ∃ fX opX nuX otX, itemB fX = true ∧ Hid (ISt w wX gc gt 600 c2 r Ai cp L fX opX nuX otX) := ⟨fd, op, nu, 0, by unfold itemB; simp; omega, Lib.hid st13⟩
    clear st13
    go_wp2_with fail
    go_loopw [6, 7] (fun v i wr => ∃ (k : Nat) (sm : Bool), v = .bool sm ∧ i = .int .i64 (k : Int) ∧ k ≤ L.length ∧ Hid (sm = (L.take k).any fun p => evalF c2 [p.1] fX opX nuX ⟨#[]⟩ otX) ∧ ISt w wr gc gt 600 c2 r Ai cp L fX opX nuX otX) (fun _ i _ => L.length - (intOf i).toNat)
    case atStart => exact ⟨0, false, rfl, rfl, by omega, Lib.hid (by simp), HSX.out⟩
    case round =>
      obtain ⟨k, sm, rfl, rfl, hk, HSM, hst⟩ := hrel
      clear HSX
      have q23 := CtxB.items hst.st.cb
      by_cases hlt : k < L.length
      · obtain ⟨ad, rfl, hone⟩ := ItemsAt.one hst.st.it k hlt
        have hcb1 : CtxB ((wr.alloc (.cells zeroX 35)).setRow wr.heap.size (ctxC c2 r (.slice (some ad) L.length cp))) wr.heap.size c2 r (.slice (some ad) L.length cp) := (Blk.new wr _ _).row _
        have hb1 : Below wr.heap.size wr ((wr.alloc (.cells zeroX 35)).setRow wr.heap.size (ctxC c2 r (.slice (some ad) L.length cp))) := below_row ((Below.refl _ _).alloc (Nat.le_refl _) _) (Nat.le_refl _) _
        have st1 := hst.below hb1
        have hone1 := hone.keep hb1 (Nat.le_of_lt (Blk.lt hst.st.cb))
        have hgy : gc < wr.heap.size := Blk.lt hst.st.cb
        have hgy2 : gt < wr.heap.size := Blk.lt hst.tb
        have HX := Blk.new wr zeroX 35
        have ql := lw_ctx hst.st.cb
        clear hone hst hb1
        have hki : (k : Int) < (L.length : Int) := by omega
        go_upto_region 12 with ((with_reducible refine store_blk ?_ 35 (.tmp 8) (.tmp 38) ?_ HX (ctxC c2 r (.slice (some ad) L.length cp)) ?_ ?_ ?_ ?_ ?_ ?_); (iterate 4 rfl); (exact ctx_sz _ _ _); (exact ctx_old _ _ _); (exact ctx_one _ _ _ _ _))
        clear HX ql q23
        generalize (wr.alloc (.cells zeroX 35)).setRow wr.heap.size (ctxC c2 r (.slice (some ad) L.length cp)) = wy at *
        generalize wr.heap.size = gy at *
        have qa := CtxB.items st1.st.cb
        have fy := Blk.free hcb1 23
        have qy := CtxB.items hcb1
        go_upto_region 13 with fail
        have stz : ISt w (wy.setCell ⟨gy, 23, none⟩ (.slice (some (ad.add (k * 13))) 1 (cp - k))) gc gt 600 c2 r (some ad) cp L fX opX nuX otX := ⟨st1.st.setAt (p := ⟨gy, 23, none⟩) hgy _, Blk.put_other st1.tb _ (by show gt ≠ gy; omega)⟩
        have hcz := hcb1.putI (.slice (some (ad.add (k * 13))) 1 (cp - k))
        have hone2 := hone1.keep ((Below.refl gc wy).setCell (p := ⟨gy, 23, none⟩) (Nat.le_of_lt hgy) (.slice (some (ad.add (k * 13))) 1 (cp - k))) (Nat.le_refl _)
        have hstep := any_step hlt (fun i => evalF c2 [i] fX opX nuX ⟨#[]⟩ otX)
        have HSTEP := Lib.hid hstep
        clear hstep qa fy qy st1 hcb1 hone1 hki
        generalize wy.setCell ⟨gy, 23, none⟩ (.slice (some (ad.add (k * 13))) 1 (cp - k)) = wz at *
        cases sm with
        | true =>
          go_wp2_with fail
          go_roundw
          case rel => exact ⟨k + 1, true, rfl, by go_num, by omega, Lib.hid (by rw [HSTEP.out, ← HSM.out]; rfl), stz⟩
          case measure => simp [intOf]; omega
        | false =>
          have qt := lw_test stz.tb
          have ql := lw_ctx hcz
          go_wp2_with fail
          refine (veval_itm c2 r (some (ad.add (k * 13))) 1 (cp - k) [L[k]] rfl (by simp) fX opX nuX otX _ (hone2.more (Nat.le_of_lt (Blk.lt stz.st.cb)))).mono ?_
          rintro e wv ⟨y, HY, rfl, hbv⟩
          clear qt ql
          go_wp2_with fail
          go_roundw
          case rel => exact ⟨k + 1, y, rfl, by go_num, by omega, Lib.hid (by rw [HSTEP.out, ← HSM.out, HY.out]; rfl), stz.below hbv⟩
          case measure => simp [intOf]; omega
      · obtain rfl : k = L.length := by omega
        have HA : Hid (sm = L.any fun p => evalF c2 [p.1] fX opX nuX ⟨#[]⟩ otX) := Lib.hid (by rw [HSM.out, List.take_length])
        have qt := lw_test hst.tb
        have ql := lw_ctx hst.st.cb
        clear HSM hk hlt
        go_wp2_with fail
        refine (veval_itm c2 r Ai L.length cp L rfl hL2 fX opX nuX otX _ hst.st.items).mono ?_
        rintro e wv ⟨y, HY, rfl, hbv⟩
        obtain rfl : y = sm := by rw [HY.out, HA.out, eval_items hit, any_map]
        have stv := hst.below hbv
        clear qt ql hst hbv q23 HY
        have qv := CtxB.items stv.st.cb
        have qp := CtxB.ph stv.st.cb
        have fp := Blk.free stv.st.cb 0
        have stw := stv.ph (by omega) 1
        have htrue : y = true → L.length ≠ 0 := fun e => any_zero (f := fun i => evalF c2 [i] fX opX nuX ⟨#[]⟩ otX) (by rw [← HA.out, e])
        have hev : evalF { c2 with ph := 1 } (L.map (·.1)) fX opX nuX ⟨#[]⟩ otX = false := eval_entry hit (by show (1 : Int) ≠ 2; omega)
        have HEV := Lib.hid hev
        have HTR := Lib.hid htrue
        clear hev htrue HA
        have hyn : (y = true ∧ (L.length == 0) = false) ∨ (y = false ∧ (L.length == 0) = false) ∨ (y = false ∧ (L.length == 0) = true) := by
          cases y
          · by_cases h0 : L.length = 0
            · exact .inr (.inr ⟨rfl, by simpa using h0⟩)
            · exact .inr (.inl ⟨rfl, by simpa using h0⟩)
          · exact .inl ⟨rfl, by simpa using HTR.out rfl⟩
        clear HTR
        rcases hyn with ⟨rfl, HN0⟩ | ⟨rfl, HN0⟩ | ⟨rfl, HN0⟩
        all_goals
          go_wp2_with fail
          refine (same_nil Ai L.length cp hL2 _).mono ?_
          rintro e wu ⟨rfl, rfl⟩
          rw [HN0]
          clear HN0
          go_upto_region 17 with fail
          clear qv qp fp stv
          have qt := lw_test stw.tb
          have ql := lw_ctx stw.st.cb
          go_wp2_with fail
          refine (veval_itm _ r Ai L.length cp L rfl hL2 fX opX nuX otX _ stw.st.items).mono ?_
          rintro e wt ⟨y2, HY2, rfl, hbt⟩
          obtain rfl : y2 = false := by rw [HY2.out, HEV.out]
          have stt := stw.below hbt
          clear qt ql stw hbt HY2
          go_wp2_with fail
          refine (HAW.out _ stt.st.low).mono ?_
          rintro e wa ⟨rfl, hba⟩
          go_wp2_with fail
          go_ret
          exact ⟨rfl, below_then stt.st.low hba⟩
end Go.Proofs.YtnpaoepkpdileaaDoor

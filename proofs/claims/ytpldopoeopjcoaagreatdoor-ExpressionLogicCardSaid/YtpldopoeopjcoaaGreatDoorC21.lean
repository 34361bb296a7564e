/- Texts of one proof, laid together. -/
import Derived.Test.YtpldopoeopjcoaaGreatDoorC20
import Derived.Deep.RegionHeld3
/- The walk of the law ExpressionLogic. -/
namespace Go.Proofs.YtpldopoeopjcoaaGreatDoor
open Go.RowKit
/-- What the walk of ExpressionLogic keeps. -/
structure LgS (w wr : World) (ga gb ge : Nat) (a b : Ex) (ma mb : Xe) (en et : Int) (A : Option Addr) (cp : Nat) (c : Bool) (X : List Rm) : Prop where
  low : Below w.heap.size w wr
  ba : Blk wr ga 25 (xC ma)
  bb : Blk wr gb 25 (xC mb)
  be : Blk wr ge 39 (evC 1 en et (.slice A X.length cp) c)
  xa : ExV wr wr.heap.size a ma
  xb : ExV wr wr.heap.size b mb
  at_ : EvAt wr A X
  gl : XGlob wr
section
variable {w wr w' : World} {ga gb ge : Nat} {a b : Ex} {ma mb : Xe} {en et : Int} {A : Option Addr} {cp : Nat} {c : Bool} {X : List Rm}
theorem LgS.below (h : LgS w wr ga gb ge a b ma mb en et A cp c X) (hb : Below wr.heap.size wr w') : LgS w w' ga gb ge a b ma mb en et A cp c X :=
  ⟨below_then h.low hb, h.ba.below hb, h.bb.below hb, h.be.below hb, h.xa.bel hb, h.xb.bel hb, h.at_.below hb, h.gl.below hb⟩
theorem LgS.ev (h : LgS w wr ga gb ge a b ma mb en et A cp c X) (hX : XOk X) {z : Ex} {mz : Xe} (hz : ExV wr wr.heap.size z mz) {v : Int} (hv : evalE z (pairsE ⟨#[97]⟩ 1 en et c X) = v) :
    Calls Tryz.prog 15 #[.agg (xC mz), .string ⟨#[97]⟩, .agg (evC 1 en et (.slice A X.length cp) c)] wr fun e w' => e = .returned (.int .i64 v) ∧ Below wr.heap.size wr w' := by
  have := vEval z mz ⟨#[97]⟩ 1 en et A X.length cp c X rfl wr hz h.at_ h.gl.tys h.gl.env.mx (pairs_ok ⟨#[97]⟩ 1 en et c X hX (by decide))
  rw [hv] at this
  exact this
end
attribute [-go_sem] loadVar
attribute [local go_sem] lv3x lv9x lvXx
attribute [local irreducible] evalE pairsE notV
set_option maxRecDepth 100000 in
set_option maxHeartbeats 32000000 in
theorem expressionLogic_walk (w : World) (A : Option Addr) (n0 c0 : Nat) (hnc : n0 ≤ c0) (hcn : (c0 : Int) ≤ 9223372036854775807)
    (hl : ∀ k, k < n0 → ∃ (ad : Addr) (z : Int), A = some ad ∧ ad.block < w.heap.size ∧ w.cell? (ad.add k) = some (.int .u8 z) ∧ 0 ≤ z ∧ z ≤ 255) (hG : XGlob w) :
    Calls Tryz.prog 4 #[.slice A n0 c0] w fun e w' => e = .returned (.bool true) ∧ Below w.heap.size w w' := by
  have HG := Lib.hid (fun (W : World) (h : Below w.heap.size w W) => hG.below h)
  have HN := Lib.hid (ca_new w A n0 c0 300 (by omega) hnc hcn hl)
  clear hG hl hnc hcn
  go_enter Tryz.func4, Tryz.ntmps4
  go_wp2_with fail
  refine HN.out.mono ?_
  rintro e w1 ⟨rfl, hca, hb1⟩
  have C1 := Lib.hid hca
  have B1 := Lib.hid hb1
  have hgl := ca_lt hca
  clear hca hb1 HN
  go_wp2_with fail
  refine (ca_expr w.heap.size w.heap.size 1 _ (by omega) C1.out).mono ?_
  rintro e w2 ⟨a, ma, rfl, hxa, hga, hca, hg⟩
  have C2 := Lib.hid hca
  have B2 := Lib.hid (below_only B1.out hg B1.out.size (Nat.le_refl _))
  have XA := Lib.hid hxa
  have GA := Lib.hid hga
  clear hxa hga hca hg C1 B1
  go_wp2_with fail
  refine (ca_expr w.heap.size w.heap.size 1 _ (by omega) C2.out).mono ?_
  rintro e w3 ⟨b, mb, rfl, hxb, hgb, hca, hg⟩
  have C3 := Lib.hid ((hca.alloc (.cells (xC ma) 25)).alloc (.cells (xC mb) 25))
  have B3 := Lib.hid (below_only B2.out hg B2.out.size (Nat.le_refl _))
  have hs1 : (w3.alloc (.cells (xC ma) 25)).heap.size = w3.heap.size + 1 := by simp
  have hbb : Below w3.heap.size w3 ((w3.alloc (.cells (xC ma) 25)).alloc (.cells (xC mb) 25)) := ((Below.refl w3.heap.size w3).alloc (Nat.le_refl _) _).alloc (by rw [hs1]; omega) _
  have XA3 := Lib.hid (show ExA ((w3.alloc (.cells (xC ma) 25)).alloc (.cells (xC mb) 25)) (fun i => w.heap.size < i ∧ i < w3.heap.size) a ma from
    XA.out.keep (fun i hi => (hbb.block i (Nat.lt_of_lt_of_le hi.2 hg.size)).trans (hg.block i hi.2 (fun e => by injection e with e; have := hi.1; omega))) (fun i hi => ⟨Nat.lt_of_lt_of_le hgl hi.1, Nat.lt_of_lt_of_le hi.2 hg.size⟩))
  have XB3 := Lib.hid (show ExA ((w3.alloc (.cells (xC ma) 25)).alloc (.cells (xC mb) 25)) (fun i => w.heap.size < i ∧ i < w3.heap.size) b mb from
    hxb.keep (fun i hi => hbb.block i hi.2) (fun i hi => ⟨Nat.lt_of_lt_of_le (ca_lt C2.out) hi.1, hi.2⟩))
  have BA3 := Lib.hid ((Blk.new w3 (xC ma) 25).alloc (.cells (xC mb) 25))
  have BB3 := Lib.hid (show Blk ((w3.alloc (.cells (xC ma) 25)).alloc (.cells (xC mb) 25)) (w3.heap.size + 1) 25 (xC mb) by
    have h := Blk.new (w3.alloc (.cells (xC ma) 25)) (xC mb) 25
    rw [hs1] at h
    exact h)
  have BW3 := Lib.hid (B3.out.trans (hbb.mono B3.out.size))
  have GB := Lib.hid hgb
  have hga3 : w.heap.size < w3.heap.size := ca_lt hca
  have hsz3 : w3.heap.size + 1 < ((w3.alloc (.cells (xC ma) 25)).alloc (.cells (xC mb) 25)).heap.size := BB3.out.lt
  clear hxb hgb hca hg hbb XA C2 B2 B3 hs1
  go_wp2_with fail
  generalize (w3.alloc (.cells (xC ma) 25)).alloc (.cells (xC mb) 25) = w4 at *
  generalize w3.heap.size = ga at *
  refine (ca_int _ w.heap.size w.heap.size 9 C3.out (by omega) (by omega)).mono ?_
  rintro e w5 ⟨p, rfl, hp0, hp9, hca, hg5⟩
  have C5 := Lib.hid hca
  have G5 := Lib.hid hg5
  clear hca hg5 C3
  go_wp2_with fail
  refine (ca_int _ w.heap.size w.heap.size 9 C5.out (by omega) (by omega)).mono ?_
  rintro e w6 ⟨q, rfl, hq0, hq9, hca, hg6⟩
  have C6 := Lib.hid hca
  have G6 := Lib.hid (only_trans G5.out hg6)
  clear hca hg6 C5 G5
  go_wp2_with fail
  refine (ca_event _ w.heap.size w.heap.size 1 (1 + p) q C6.out (by omega)).mono ?_
  rintro e w7 ⟨Ae, cp, c, X, rfl, ho, hps, hXl, hca, hg⟩
  have hgg := only_trans G6.out hg
  have HXO := Lib.hid (show XOk X from ⟨hXl, fun x hx => (hps x hx).2⟩)
  have hev := ev_at ho hps hXl
  have hB7 := below_only BW3.out hgg BW3.out.size (Nat.le_refl _)
  have hb8 : Below w7.heap.size w7 (w7.alloc (.cells (evC 1 (1 + p) q (.slice Ae X.length cp) c) 39)) := (Below.refl w7.heap.size w7).alloc (Nat.le_refl _) _
  have hxa7 := (XA3.out.keep (S' := fun i => i < w7.heap.size) (fun i hi => hgg.block i (Nat.lt_of_lt_of_le hi.2 (by omega)) (fun e => by injection e with e; have := hi.1; omega)) (fun i hi => Nat.lt_of_lt_of_le hi.2 (Nat.le_trans (by omega) hgg.size))).v (B := w7.heap.size) (fun i hi => hi)
  have hxb7 := (XB3.out.keep (S' := fun i => i < w7.heap.size) (fun i hi => hgg.block i (Nat.lt_of_lt_of_le hi.2 (by omega)) (fun e => by injection e with e; have := hi.1; omega)) (fun i hi => Nat.lt_of_lt_of_le hi.2 (Nat.le_trans (by omega) hgg.size))).v (B := w7.heap.size) (fun i hi => hi)
  have K := Lib.hid (show LgS w (w7.alloc (.cells (evC 1 (1 + p) q (.slice Ae X.length cp) c) 39)) ga (ga + 1) w7.heap.size a b ma mb (1 + p) q Ae cp c X from
    ⟨below_then hB7 hb8, (Blk.grown BA3.out hgg (fun e => by injection e with e; omega)).below hb8, (Blk.grown BB3.out hgg (fun e => by injection e with e; omega)).below hb8, Blk.new w7 _ _, hxa7.bel hb8, hxb7.bel hb8, hev.below hb8, HG.out _ (below_then hB7 hb8)⟩)
  obtain ⟨va, vb, vA, vO, hLV⟩ := log_v (pairsE ⟨#[97]⟩ 1 (1 + p) q c X) GA.out GB.out
  have LV := Lib.hid hLV
  clear hLV ho hps hXl hca hg hgg hev hB7 hb8 hxa7 hxb7 XA3 XB3 BA3 BB3 BW3 C6 G6 GA GB HG
  go_wp2_with fail
  generalize w7.alloc (.cells (evC 1 (1 + p) q (.slice Ae X.length cp) c) 39) = w8 at *
  generalize w7.heap.size = ge at *
  have HLD := Lib.hid (show ∀ W : World, Below w8.heap.size w8 W → Below w8.heap.size w8 W ∧ (loadVar 25 ⟨ga, 0, none⟩).run Tryz.prog W = .ok (.agg (xC ma)) W ∧ (loadVar 25 ⟨ga + 1, 0, none⟩).run Tryz.prog W = .ok (.agg (xC mb)) W ∧ (loadVar 39 ⟨ge, 0, none⟩).run Tryz.prog W = .ok (.agg (evC 1 (1 + p) q (.slice Ae X.length cp) c)) W from
    fun W h => ⟨h, ld_x (K.out.below h).ba, ld_x (K.out.below h).bb, ld_e (K.out.below h).be⟩)
  have VA := Lib.hid (show ∀ W : World, Below w8.heap.size w8 W → Calls Tryz.prog 15 #[.agg (xC ma), .string ⟨#[97]⟩, .agg (evC 1 (1 + p) q (.slice Ae X.length cp) c)] W fun e w' => e = .returned (.int .i64 va) ∧ Below W.heap.size W w' from fun W h => (K.out.below h).ev HXO.out (K.out.below h).xa LV.out.ea)
  have VB := Lib.hid (show ∀ W : World, Below w8.heap.size w8 W → Calls Tryz.prog 15 #[.agg (xC mb), .string ⟨#[97]⟩, .agg (evC 1 (1 + p) q (.slice Ae X.length cp) c)] W fun e w' => e = .returned (.int .i64 vb) ∧ Below W.heap.size W w' from fun W h => (K.out.below h).ev HXO.out (K.out.below h).xb LV.out.eb)
  have BR := Lib.hid (Below.refl w8.heap.size w8).drew
  go_region_held3 (fun W => Below w8.heap.size w8 W ∧ (loadVar 25 ⟨ga, 0, none⟩).run Tryz.prog W = .ok (.agg (xC ma)) W ∧ (loadVar 25 ⟨ga + 1, 0, none⟩).run Tryz.prog W = .ok (.agg (xC mb)) W ∧ (loadVar 39 ⟨ge, 0, none⟩).run Tryz.prog W = .ok (.agg (evC 1 (1 + p) q (.slice Ae X.length cp) c)) W)
    (first | exact HLD.out _ BR.out | exact HLD.out _ (below_then (And.left (by assumption)) hb))
    (first | (go_at_call_of 15 (Value.agg (xC ma)); refine (VA.out _ ?_).mono ?_; (first | exact BR.out | exact And.left (by assumption)); rintro e w9 ⟨rfl, hb⟩) | (go_at_call_of 15 (Value.agg (xC mb)); refine (VB.out _ ?_).mono ?_; (first | exact BR.out | exact And.left (by assumption)); rintro e w9 ⟨rfl, hb⟩))
  rename_i w9 hS9
  have K0 := Lib.hid (K.out.below hS9.1)
  clear hS9 K HLD VA VB BR
  have a1 : ¬ va < 1 := by have := LV.out.ha; unfold V3 at this; omega
  have a2 : ¬ 3 < va := by have := LV.out.ha; unfold V3 at this; omega
  have b1 : ¬ vb < 1 := by have := LV.out.hb; unfold V3 at this; omega
  have b2 : ¬ 3 < vb := by have := LV.out.hb; unfold V3 at this; omega
  have K0 := Lib.hid (K0.out.below (Below.refl w9.heap.size w9).drew)
  have hs3 : ∀ {W : World}, LgS w W ga (ga + 1) ge a b ma mb (1 + p) q Ae cp c X → (loadVar 25 ⟨ga, 0, none⟩).run Tryz.prog W = .ok (.agg (xC ma)) W ∧ (loadVar 25 ⟨ga + 1, 0, none⟩).run Tryz.prog W = .ok (.agg (xC mb)) W ∧ (loadVar 39 ⟨ge, 0, none⟩).run Tryz.prog W = .ok (.agg (evC 1 (1 + p) q (.slice Ae X.length cp) c)) W := fun h => ⟨ld_x h.ba, ld_x h.bb, ld_e h.be⟩
  have HS := hs3 K0.out
  go_wp2_with fail
  clear a1 a2 b1 b2
  refine wp_region_held_drew (S := (fun W => (loadVar 25 ⟨ga, 0, none⟩).run Tryz.prog W = .ok (.agg (xC ma)) W ∧ (loadVar 25 ⟨ga + 1, 0, none⟩).run Tryz.prog W = .ok (.agg (xC mb)) W ∧ (loadVar 39 ⟨ge, 0, none⟩).run Tryz.prog W = .ok (.agg (evC 1 (1 + p) q (.slice Ae X.length cp) c)) W)) (by as_aux_lemma => kernel_rfl) HS (fun hHeld => ?_)
  clear HS
  refine wpAnyH_take (i := 0) (v := ?_) rfl (by as_aux_lemma => kernel_rfl) (by as_aux_lemma => kernel_rfl) (by as_aux_lemma => kernel_rfl) (fun _ _ _ h => h) (Or.inl ⟨by as_aux_lemma => kernel_rfl, ?_⟩) hHeld ?_
  rotate_left
  · intro w hSw
    obtain ⟨s1, s2, s3⟩ := hSw
    go_simp
    try (with_reducible rfl)
  refine wpAnyH_take (i := 3) (v := ?_) rfl (by as_aux_lemma => kernel_rfl) (by as_aux_lemma => kernel_rfl) (by as_aux_lemma => kernel_rfl) (fun _ _ _ h => h) (Or.inl ⟨by as_aux_lemma => kernel_rfl, ?_⟩) hHeld ?_
  rotate_left
  · intro w hSw
    obtain ⟨s1, s2, s3⟩ := hSw
    go_simp
    try (with_reducible rfl)
  refine wpAnyH_take (i := 5) (v := ?_) rfl (by as_aux_lemma => kernel_rfl) (by as_aux_lemma => kernel_rfl) (by as_aux_lemma => kernel_rfl) (fun _ _ _ h => h) (Or.inl ⟨by as_aux_lemma => kernel_rfl, ?_⟩) hHeld ?_
  rotate_left
  · intro w hSw
    obtain ⟨s1, s2, s3⟩ := hSw
    go_simp
    try (with_reducible rfl)
  refine wpAnyH_ready (rs := [1]) (by as_aux_lemma => kernel_rfl) (by simp) ?_
  refine AllReadyH.cons rfl (fun K hK => ?_) AllReadyH.nil
  go_simp
  go_at_call 16
  refine (vnot38 _ ma _ K0.out.xa).mono ?_
  rintro e wq1 ⟨mq1, rfl, hz, hb⟩
  have K1 := Lib.hid (K0.out.below hb)
  have V1_x1 := Lib.hid hz
  clear hz
  have HS := hs3 K1.out
  clear hb K0
  go_simp
  refine hK.out _ _ HS (fun hHeld => ?_)
  clear hK K
  clear HS
  refine wpAnyH_ready (rs := [2]) (by as_aux_lemma => kernel_rfl) (by simp) ?_
  refine AllReadyH.cons rfl (fun K hK => ?_) AllReadyH.nil
  go_simp
  go_at_call 16
  refine (vnot38 _ mq1 _ V1_x1.out).mono ?_
  rintro e wq2 ⟨mq2, rfl, hz, hb⟩
  have K2 := Lib.hid (K1.out.below hb)
  clear V1_x1
  have V2_x2 := Lib.hid hz
  clear hz
  have HS := hs3 K2.out
  clear hb K1
  go_simp
  refine hK.out _ _ HS (fun hHeld => ?_)
  clear hK K
  clear HS
  refine wpAnyH_ready (rs := [4]) (by as_aux_lemma => kernel_rfl) (by simp) ?_
  refine AllReadyH.cons rfl (fun K hK => ?_) AllReadyH.nil
  go_simp
  go_at_call 15
  refine (K2.out.ev HXO.out V2_x2.out LV.out.nna).mono ?_
  rintro e wq3 ⟨rfl, hb⟩
  have K3 := Lib.hid (K2.out.below hb)
  clear V2_x2
  have HS := hs3 K3.out
  clear hb K2
  go_simp
  refine hK.out _ _ HS (fun hHeld => ?_)
  clear hK K
  clear HS
  refine wpAnyH_take (i := 6) (v := ?_) rfl (by as_aux_lemma => kernel_rfl) (by as_aux_lemma => kernel_rfl) (by as_aux_lemma => kernel_rfl) (fun _ _ _ h => h) (Or.inl ⟨by as_aux_lemma => kernel_rfl, ?_⟩) hHeld ?_
  rotate_left
  · intro w hSw
    obtain ⟨s1, s2, s3⟩ := hSw
    go_simp
    try (with_reducible rfl)
  refine wpAnyH_take (i := 7) (v := ?_) rfl (by as_aux_lemma => kernel_rfl) (by as_aux_lemma => kernel_rfl) (by as_aux_lemma => kernel_rfl) (fun _ _ _ h => h) (Or.inl ⟨by as_aux_lemma => kernel_rfl, ?_⟩) hHeld ?_
  rotate_left
  · intro w hSw
    obtain ⟨s1, s2, s3⟩ := hSw
    go_simp
    try (with_reducible rfl)
  refine wpAnyH_take (i := 8) (v := ?_) rfl (by as_aux_lemma => kernel_rfl) (by as_aux_lemma => kernel_rfl) (by as_aux_lemma => kernel_rfl) (fun _ _ _ h => h) (Or.inl ⟨by as_aux_lemma => kernel_rfl, ?_⟩) hHeld ?_
  rotate_left
  · intro w hSw
    obtain ⟨s1, s2, s3⟩ := hSw
    go_simp
    try (with_reducible rfl)
  refine wpAnyH_take (i := 9) (v := ?_) rfl (by as_aux_lemma => kernel_rfl) (by as_aux_lemma => kernel_rfl) (by as_aux_lemma => kernel_rfl) (fun _ _ _ h => h) (Or.inl ⟨by as_aux_lemma => kernel_rfl, ?_⟩) hHeld ?_
  rotate_left
  · intro w hSw
    obtain ⟨s1, s2, s3⟩ := hSw
    go_simp
    try (with_reducible rfl)
  refine wpAnyH_take (i := 11) (v := ?_) rfl (by as_aux_lemma => kernel_rfl) (by as_aux_lemma => kernel_rfl) (by as_aux_lemma => kernel_rfl) (fun _ _ _ h => h) (Or.inl ⟨by as_aux_lemma => kernel_rfl, ?_⟩) hHeld ?_
  rotate_left
  · intro w hSw
    obtain ⟨s1, s2, s3⟩ := hSw
    go_simp
    try (with_reducible rfl)
  refine wpAnyH_take (i := 13) (v := ?_) rfl (by as_aux_lemma => kernel_rfl) (by as_aux_lemma => kernel_rfl) (by as_aux_lemma => kernel_rfl) (fun _ _ _ h => h) (Or.inl ⟨by as_aux_lemma => kernel_rfl, ?_⟩) hHeld ?_
  rotate_left
  · intro w hSw
    obtain ⟨s1, s2, s3⟩ := hSw
    go_simp
    try (with_reducible rfl)
  refine wpAnyH_ready (rs := [10]) (by as_aux_lemma => kernel_rfl) (by simp) ?_
  refine AllReadyH.cons rfl (fun K hK => ?_) AllReadyH.nil
  go_simp
  go_at_call 17
  refine (vtwo38 1 _ _ ma ma _ K3.out.xa K3.out.xa).mono ?_
  rintro e wq4 ⟨mq4, rfl, hz, hb⟩
  have K4 := Lib.hid (K3.out.below hb)
  have V4_y1 := Lib.hid hz
  clear hz
  have HS := hs3 K4.out
  clear hb K3
  go_simp
  refine hK.out _ _ HS (fun hHeld => ?_)
  clear hK K
  clear HS
  refine wpAnyH_ready (rs := [12]) (by as_aux_lemma => kernel_rfl) (by simp) ?_
  refine AllReadyH.cons rfl (fun K hK => ?_) AllReadyH.nil
  go_simp
  go_at_call 15
  refine (K4.out.ev HXO.out V4_y1.out LV.out.aa).mono ?_
  rintro e wq5 ⟨rfl, hb⟩
  have K5 := Lib.hid (K4.out.below hb)
  clear V4_y1
  have HS := hs3 K5.out
  clear hb K4
  go_simp
  refine hK.out _ _ HS (fun hHeld => ?_)
  clear hK K
  clear HS
  refine wpAnyH_take (i := 14) (v := ?_) rfl (by as_aux_lemma => kernel_rfl) (by as_aux_lemma => kernel_rfl) (by as_aux_lemma => kernel_rfl) (fun _ _ _ h => h) (Or.inl ⟨by as_aux_lemma => kernel_rfl, ?_⟩) hHeld ?_
  rotate_left
  · intro w hSw
    obtain ⟨s1, s2, s3⟩ := hSw
    go_simp
    try (with_reducible rfl)
  refine wpAnyH_take (i := 15) (v := ?_) rfl (by as_aux_lemma => kernel_rfl) (by as_aux_lemma => kernel_rfl) (by as_aux_lemma => kernel_rfl) (fun _ _ _ h => h) (Or.inl ⟨by as_aux_lemma => kernel_rfl, ?_⟩) hHeld ?_
  rotate_left
  · intro w hSw
    obtain ⟨s1, s2, s3⟩ := hSw
    go_simp
    try (with_reducible rfl)
  refine wpAnyH_take (i := 16) (v := ?_) rfl (by as_aux_lemma => kernel_rfl) (by as_aux_lemma => kernel_rfl) (by as_aux_lemma => kernel_rfl) (fun _ _ _ h => h) (Or.inl ⟨by as_aux_lemma => kernel_rfl, ?_⟩) hHeld ?_
  rotate_left
  · intro w hSw
    obtain ⟨s1, s2, s3⟩ := hSw
    go_simp
    try (with_reducible rfl)
  refine wpAnyH_take (i := 17) (v := ?_) rfl (by as_aux_lemma => kernel_rfl) (by as_aux_lemma => kernel_rfl) (by as_aux_lemma => kernel_rfl) (fun _ _ _ h => h) (Or.inl ⟨by as_aux_lemma => kernel_rfl, ?_⟩) hHeld ?_
  rotate_left
  · intro w hSw
    obtain ⟨s1, s2, s3⟩ := hSw
    go_simp
    try (with_reducible rfl)
  refine wpAnyH_take (i := 18) (v := ?_) rfl (by as_aux_lemma => kernel_rfl) (by as_aux_lemma => kernel_rfl) (by as_aux_lemma => kernel_rfl) (fun _ _ _ h => h) (Or.inl ⟨by as_aux_lemma => kernel_rfl, ?_⟩) hHeld ?_
  rotate_left
  · intro w hSw
    obtain ⟨s1, s2, s3⟩ := hSw
    go_simp
    try (with_reducible rfl)
  refine wpAnyH_take (i := 20) (v := ?_) rfl (by as_aux_lemma => kernel_rfl) (by as_aux_lemma => kernel_rfl) (by as_aux_lemma => kernel_rfl) (fun _ _ _ h => h) (Or.inl ⟨by as_aux_lemma => kernel_rfl, ?_⟩) hHeld ?_
  rotate_left
  · intro w hSw
    obtain ⟨s1, s2, s3⟩ := hSw
    go_simp
    try (with_reducible rfl)
  refine wpAnyH_take (i := 22) (v := ?_) rfl (by as_aux_lemma => kernel_rfl) (by as_aux_lemma => kernel_rfl) (by as_aux_lemma => kernel_rfl) (fun _ _ _ h => h) (Or.inl ⟨by as_aux_lemma => kernel_rfl, ?_⟩) hHeld ?_
  rotate_left
  · intro w hSw
    obtain ⟨s1, s2, s3⟩ := hSw
    go_simp
    try (with_reducible rfl)
  refine wpAnyH_ready (rs := [19]) (by as_aux_lemma => kernel_rfl) (by simp) ?_
  refine AllReadyH.cons rfl (fun K hK => ?_) AllReadyH.nil
  go_simp
  go_at_call 17
  refine (vtwo38 2 _ _ ma ma _ K5.out.xa K5.out.xa).mono ?_
  rintro e wq6 ⟨mq6, rfl, hz, hb⟩
  have K6 := Lib.hid (K5.out.below hb)
  have V6_y2 := Lib.hid hz
  clear hz
  have HS := hs3 K6.out
  clear hb K5
  go_simp
  refine hK.out _ _ HS (fun hHeld => ?_)
  clear hK K
  clear HS
  refine wpAnyH_ready (rs := [21]) (by as_aux_lemma => kernel_rfl) (by simp) ?_
  refine AllReadyH.cons rfl (fun K hK => ?_) AllReadyH.nil
  go_simp
  go_at_call 15
  refine (K6.out.ev HXO.out V6_y2.out LV.out.oa).mono ?_
  rintro e wq7 ⟨rfl, hb⟩
  have K7 := Lib.hid (K6.out.below hb)
  clear V6_y2
  have HS := hs3 K7.out
  clear hb K6
  go_simp
  refine hK.out _ _ HS (fun hHeld => ?_)
  clear hK K
  clear HS
  refine wpAnyH_take (i := 23) (v := ?_) rfl (by as_aux_lemma => kernel_rfl) (by as_aux_lemma => kernel_rfl) (by as_aux_lemma => kernel_rfl) (fun _ _ _ h => h) (Or.inl ⟨by as_aux_lemma => kernel_rfl, ?_⟩) hHeld ?_
  rotate_left
  · intro w hSw
    obtain ⟨s1, s2, s3⟩ := hSw
    go_simp
    try (with_reducible rfl)
  refine wpAnyH_take (i := 24) (v := ?_) rfl (by as_aux_lemma => kernel_rfl) (by as_aux_lemma => kernel_rfl) (by as_aux_lemma => kernel_rfl) (fun _ _ _ h => h) (Or.inl ⟨by as_aux_lemma => kernel_rfl, ?_⟩) hHeld ?_
  rotate_left
  · intro w hSw
    obtain ⟨s1, s2, s3⟩ := hSw
    go_simp
    try (with_reducible rfl)
  refine wpAnyH_take (i := 25) (v := ?_) rfl (by as_aux_lemma => kernel_rfl) (by as_aux_lemma => kernel_rfl) (by as_aux_lemma => kernel_rfl) (fun _ _ _ h => h) (Or.inl ⟨by as_aux_lemma => kernel_rfl, ?_⟩) hHeld ?_
  rotate_left
  · intro w hSw
    obtain ⟨s1, s2, s3⟩ := hSw
    go_simp
    try (with_reducible rfl)
  refine wpAnyH_take (i := 26) (v := ?_) rfl (by as_aux_lemma => kernel_rfl) (by as_aux_lemma => kernel_rfl) (by as_aux_lemma => kernel_rfl) (fun _ _ _ h => h) (Or.inl ⟨by as_aux_lemma => kernel_rfl, ?_⟩) hHeld ?_
  rotate_left
  · intro w hSw
    obtain ⟨s1, s2, s3⟩ := hSw
    go_simp
    try (with_reducible rfl)
  refine wpAnyH_take (i := 27) (v := ?_) rfl (by as_aux_lemma => kernel_rfl) (by as_aux_lemma => kernel_rfl) (by as_aux_lemma => kernel_rfl) (fun _ _ _ h => h) (Or.inl ⟨by as_aux_lemma => kernel_rfl, ?_⟩) hHeld ?_
  rotate_left
  · intro w hSw
    obtain ⟨s1, s2, s3⟩ := hSw
    go_simp
    try (with_reducible rfl)
  refine wpAnyH_take (i := 29) (v := ?_) rfl (by as_aux_lemma => kernel_rfl) (by as_aux_lemma => kernel_rfl) (by as_aux_lemma => kernel_rfl) (fun _ _ _ h => h) (Or.inl ⟨by as_aux_lemma => kernel_rfl, ?_⟩) hHeld ?_
  rotate_left
  · intro w hSw
    obtain ⟨s1, s2, s3⟩ := hSw
    go_simp
    try (with_reducible rfl)
  refine wpAnyH_take (i := 31) (v := ?_) rfl (by as_aux_lemma => kernel_rfl) (by as_aux_lemma => kernel_rfl) (by as_aux_lemma => kernel_rfl) (fun _ _ _ h => h) (Or.inl ⟨by as_aux_lemma => kernel_rfl, ?_⟩) hHeld ?_
  rotate_left
  · intro w hSw
    obtain ⟨s1, s2, s3⟩ := hSw
    go_simp
    try (with_reducible rfl)
  refine wpAnyH_take (i := 32) (v := ?_) rfl (by as_aux_lemma => kernel_rfl) (by as_aux_lemma => kernel_rfl) (by as_aux_lemma => kernel_rfl) (fun _ _ _ h => h) (Or.inl ⟨by as_aux_lemma => kernel_rfl, ?_⟩) hHeld ?_
  rotate_left
  · intro w hSw
    obtain ⟨s1, s2, s3⟩ := hSw
    go_simp
    try (with_reducible rfl)
  refine wpAnyH_take (i := 34) (v := ?_) rfl (by as_aux_lemma => kernel_rfl) (by as_aux_lemma => kernel_rfl) (by as_aux_lemma => kernel_rfl) (fun _ _ _ h => h) (Or.inl ⟨by as_aux_lemma => kernel_rfl, ?_⟩) hHeld ?_
  rotate_left
  · intro w hSw
    obtain ⟨s1, s2, s3⟩ := hSw
    go_simp
    try (with_reducible rfl)
  refine wpAnyH_ready (rs := [28]) (by as_aux_lemma => kernel_rfl) (by simp) ?_
  refine AllReadyH.cons rfl (fun K hK => ?_) AllReadyH.nil
  go_simp
  go_at_call 17
  refine (vtwo38 1 _ _ ma mb _ K7.out.xa K7.out.xb).mono ?_
  rintro e wq8 ⟨mq8, rfl, hz, hb⟩
  have K8 := Lib.hid (K7.out.below hb)
  have V8_y3 := Lib.hid hz
  clear hz
  have HS := hs3 K8.out
  clear hb K7
  go_simp
  refine hK.out _ _ HS (fun hHeld => ?_)
  clear hK K
  clear HS
  refine wpAnyH_ready (rs := [30]) (by as_aux_lemma => kernel_rfl) (by simp) ?_
  refine AllReadyH.cons rfl (fun K hK => ?_) AllReadyH.nil
  go_simp
  go_at_call 15
  refine (K8.out.ev HXO.out V8_y3.out LV.out.ab).mono ?_
  rintro e wq9 ⟨rfl, hb⟩
  have K9 := Lib.hid (K8.out.below hb)
  clear V8_y3
  have HS := hs3 K9.out
  clear hb K8
  go_simp
  refine hK.out _ _ HS (fun hHeld => ?_)
  clear hK K
  clear HS
  refine wpAnyH_ready (rs := [33]) (by as_aux_lemma => kernel_rfl) (by simp) ?_
  refine AllReadyH.cons rfl (fun K hK => ?_) AllReadyH.nil
  go_simp
  go_at_call 17
  refine (vtwo38 1 _ _ mb ma _ K9.out.xb K9.out.xa).mono ?_
  rintro e wq10 ⟨mq10, rfl, hz, hb⟩
  have K10 := Lib.hid (K9.out.below hb)
  have V10_y4 := Lib.hid hz
  clear hz
  have HS := hs3 K10.out
  clear hb K9
  go_simp
  refine hK.out _ _ HS (fun hHeld => ?_)
  clear hK K
  clear HS
  refine wpAnyH_ready (rs := [35]) (by as_aux_lemma => kernel_rfl) (by simp) ?_
  refine AllReadyH.cons rfl (fun K hK => ?_) AllReadyH.nil
  go_simp
  go_at_call 15
  refine (K10.out.ev HXO.out V10_y4.out LV.out.ba).mono ?_
  rintro e wq11 ⟨rfl, hb⟩
  have K11 := Lib.hid (K10.out.below hb)
  clear V10_y4
  have HS := hs3 K11.out
  clear hb K10
  go_simp
  refine hK.out _ _ HS (fun hHeld => ?_)
  clear hK K
  clear HS
  refine wpAnyH_take (i := 36) (v := ?_) rfl (by as_aux_lemma => kernel_rfl) (by as_aux_lemma => kernel_rfl) (by as_aux_lemma => kernel_rfl) (fun _ _ _ h => h) (Or.inl ⟨by as_aux_lemma => kernel_rfl, ?_⟩) hHeld ?_
  rotate_left
  · intro w hSw
    obtain ⟨s1, s2, s3⟩ := hSw
    go_simp
    try (with_reducible rfl)
  refine wpAnyH_take (i := 37) (v := ?_) rfl (by as_aux_lemma => kernel_rfl) (by as_aux_lemma => kernel_rfl) (by as_aux_lemma => kernel_rfl) (fun _ _ _ h => h) (Or.inl ⟨by as_aux_lemma => kernel_rfl, ?_⟩) hHeld ?_
  rotate_left
  · intro w hSw
    obtain ⟨s1, s2, s3⟩ := hSw
    go_simp
    try (with_reducible rfl)
  refine wpAnyH_take (i := 38) (v := ?_) rfl (by as_aux_lemma => kernel_rfl) (by as_aux_lemma => kernel_rfl) (by as_aux_lemma => kernel_rfl) (fun _ _ _ h => h) (Or.inl ⟨by as_aux_lemma => kernel_rfl, ?_⟩) hHeld ?_
  rotate_left
  · intro w hSw
    obtain ⟨s1, s2, s3⟩ := hSw
    go_simp
    try (with_reducible rfl)
  refine wpAnyH_take (i := 39) (v := ?_) rfl (by as_aux_lemma => kernel_rfl) (by as_aux_lemma => kernel_rfl) (by as_aux_lemma => kernel_rfl) (fun _ _ _ h => h) (Or.inl ⟨by as_aux_lemma => kernel_rfl, ?_⟩) hHeld ?_
  rotate_left
  · intro w hSw
    obtain ⟨s1, s2, s3⟩ := hSw
    go_simp
    try (with_reducible rfl)
  refine wpAnyH_take (i := 40) (v := ?_) rfl (by as_aux_lemma => kernel_rfl) (by as_aux_lemma => kernel_rfl) (by as_aux_lemma => kernel_rfl) (fun _ _ _ h => h) (Or.inl ⟨by as_aux_lemma => kernel_rfl, ?_⟩) hHeld ?_
  rotate_left
  · intro w hSw
    obtain ⟨s1, s2, s3⟩ := hSw
    go_simp
    try (with_reducible rfl)
  refine wpAnyH_take (i := 43) (v := ?_) rfl (by as_aux_lemma => kernel_rfl) (by as_aux_lemma => kernel_rfl) (by as_aux_lemma => kernel_rfl) (fun _ _ _ h => h) (Or.inl ⟨by as_aux_lemma => kernel_rfl, ?_⟩) hHeld ?_
  rotate_left
  · intro w hSw
    obtain ⟨s1, s2, s3⟩ := hSw
    go_simp
    try (with_reducible rfl)
  refine wpAnyH_take (i := 45) (v := ?_) rfl (by as_aux_lemma => kernel_rfl) (by as_aux_lemma => kernel_rfl) (by as_aux_lemma => kernel_rfl) (fun _ _ _ h => h) (Or.inl ⟨by as_aux_lemma => kernel_rfl, ?_⟩) hHeld ?_
  rotate_left
  · intro w hSw
    obtain ⟨s1, s2, s3⟩ := hSw
    go_simp
    try (with_reducible rfl)
  refine wpAnyH_take (i := 47) (v := ?_) rfl (by as_aux_lemma => kernel_rfl) (by as_aux_lemma => kernel_rfl) (by as_aux_lemma => kernel_rfl) (fun _ _ _ h => h) (Or.inl ⟨by as_aux_lemma => kernel_rfl, ?_⟩) hHeld ?_
  rotate_left
  · intro w hSw
    obtain ⟨s1, s2, s3⟩ := hSw
    go_simp
    try (with_reducible rfl)
  refine wpAnyH_take (i := 50) (v := ?_) rfl (by as_aux_lemma => kernel_rfl) (by as_aux_lemma => kernel_rfl) (by as_aux_lemma => kernel_rfl) (fun _ _ _ h => h) (Or.inl ⟨by as_aux_lemma => kernel_rfl, ?_⟩) hHeld ?_
  rotate_left
  · intro w hSw
    obtain ⟨s1, s2, s3⟩ := hSw
    go_simp
    try (with_reducible rfl)
  refine wpAnyH_ready (rs := [41]) (by as_aux_lemma => kernel_rfl) (by simp) ?_
  refine AllReadyH.cons rfl (fun K hK => ?_) AllReadyH.nil
  go_simp
  go_at_call 17
  refine (vtwo38 1 _ _ ma mb _ K11.out.xa K11.out.xb).mono ?_
  rintro e wq12 ⟨mq12, rfl, hz, hb⟩
  have K12 := Lib.hid (K11.out.below hb)
  have V12_y5 := Lib.hid hz
  clear hz
  have HS := hs3 K12.out
  clear hb K11
  go_simp
  refine hK.out _ _ HS (fun hHeld => ?_)
  clear hK K
  clear HS
  refine wpAnyH_ready (rs := [42]) (by as_aux_lemma => kernel_rfl) (by simp) ?_
  refine AllReadyH.cons rfl (fun K hK => ?_) AllReadyH.nil
  go_simp
  go_at_call 16
  refine (vnot38 _ mq12 _ V12_y5.out).mono ?_
  rintro e wq13 ⟨mq13, rfl, hz, hb⟩
  have K13 := Lib.hid (K12.out.below hb)
  clear V12_y5
  have V13_y6 := Lib.hid hz
  clear hz
  have HS := hs3 K13.out
  clear hb K12
  go_simp
  refine hK.out _ _ HS (fun hHeld => ?_)
  clear hK K
  clear HS
  refine wpAnyH_ready (rs := [44]) (by as_aux_lemma => kernel_rfl) (by simp) ?_
  refine AllReadyH.cons rfl (fun K hK => ?_) AllReadyH.nil
  go_simp
  go_at_call 15
  refine (K13.out.ev HXO.out V13_y6.out LV.out.nab).mono ?_
  rintro e wq14 ⟨rfl, hb⟩
  have K14 := Lib.hid (K13.out.below hb)
  clear V13_y6
  have HS := hs3 K14.out
  clear hb K13
  go_simp
  refine hK.out _ _ HS (fun hHeld => ?_)
  clear hK K
  clear HS
  refine wpAnyH_ready (rs := [46]) (by as_aux_lemma => kernel_rfl) (by simp) ?_
  refine AllReadyH.cons rfl (fun K hK => ?_) AllReadyH.nil
  go_simp
  go_at_call 16
  refine (vnot38 _ ma _ K14.out.xa).mono ?_
  rintro e wq15 ⟨mq15, rfl, hz, hb⟩
  have K15 := Lib.hid (K14.out.below hb)
  have V15_n1 := Lib.hid hz
  clear hz
  have HS := hs3 K15.out
  clear hb K14
  go_simp
  refine hK.out _ _ HS (fun hHeld => ?_)
  clear hK K
  clear HS
  refine wpAnyH_ready (rs := [48]) (by as_aux_lemma => kernel_rfl) (by simp) ?_
  refine AllReadyH.cons rfl (fun K hK => ?_) AllReadyH.nil
  go_simp
  go_at_call 16
  refine (vnot38 _ mb _ K15.out.xb).mono ?_
  rintro e wq16 ⟨mq16, rfl, hz, hb⟩
  have K16 := Lib.hid (K15.out.below hb)
  have V16_n1 := Lib.hid (V15_n1.out.bel hb)
  clear V15_n1
  have V16_n2 := Lib.hid hz
  clear hz
  have HS := hs3 K16.out
  clear hb K15
  go_simp
  refine hK.out _ _ HS (fun hHeld => ?_)
  clear hK K
  clear HS
  refine wpAnyH_ready (rs := [49]) (by as_aux_lemma => kernel_rfl) (by simp) ?_
  refine AllReadyH.cons rfl (fun K hK => ?_) AllReadyH.nil
  go_simp
  go_at_call 17
  refine (vtwo38 2 _ _ mq15 mq16 _ V16_n1.out V16_n2.out).mono ?_
  rintro e wq17 ⟨mq17, rfl, hz, hb⟩
  have K17 := Lib.hid (K16.out.below hb)
  clear V16_n1
  clear V16_n2
  have V17_y7 := Lib.hid hz
  clear hz
  have HS := hs3 K17.out
  clear hb K16
  go_simp
  refine hK.out _ _ HS (fun hHeld => ?_)
  clear hK K
  clear HS
  refine wpAnyH_ready (rs := [51]) (by as_aux_lemma => kernel_rfl) (by simp) ?_
  refine AllReadyH.cons rfl (fun K hK => ?_) AllReadyH.nil
  go_simp
  go_at_call 15
  refine (K17.out.ev HXO.out V17_y7.out LV.out.onn).mono ?_
  rintro e wq18 ⟨rfl, hb⟩
  have K18 := Lib.hid (K17.out.below hb)
  clear V17_y7
  have HS := hs3 K18.out
  clear hb K17
  go_simp
  refine hK.out _ _ HS (fun hHeld => ?_)
  clear hK K
  clear HS
  refine wpAnyH_take (i := 52) (v := ?_) rfl (by as_aux_lemma => kernel_rfl) (by as_aux_lemma => kernel_rfl) (by as_aux_lemma => kernel_rfl) (fun _ _ _ h => h) (Or.inl ⟨by as_aux_lemma => kernel_rfl, ?_⟩) hHeld ?_
  rotate_left
  · intro w hSw
    obtain ⟨s1, s2, s3⟩ := hSw
    go_simp
    try (with_reducible rfl)
  refine wpAnyH_take (i := 53) (v := ?_) rfl (by as_aux_lemma => kernel_rfl) (by as_aux_lemma => kernel_rfl) (by as_aux_lemma => kernel_rfl) (fun _ _ _ h => h) (Or.inl ⟨by as_aux_lemma => kernel_rfl, ?_⟩) hHeld ?_
  rotate_left
  · intro w hSw
    obtain ⟨s1, s2, s3⟩ := hSw
    go_simp
    try (with_reducible rfl)
  refine wpAnyH_take (i := 54) (v := ?_) rfl (by as_aux_lemma => kernel_rfl) (by as_aux_lemma => kernel_rfl) (by as_aux_lemma => kernel_rfl) (fun _ _ _ h => h) (Or.inl ⟨by as_aux_lemma => kernel_rfl, ?_⟩) hHeld ?_
  rotate_left
  · intro w hSw
    obtain ⟨s1, s2, s3⟩ := hSw
    go_simp
    try (with_reducible rfl)
  refine wpAnyH_take (i := 55) (v := ?_) rfl (by as_aux_lemma => kernel_rfl) (by as_aux_lemma => kernel_rfl) (by as_aux_lemma => kernel_rfl) (fun _ _ _ h => h) (Or.inl ⟨by as_aux_lemma => kernel_rfl, ?_⟩) hHeld ?_
  rotate_left
  · intro w hSw
    obtain ⟨s1, s2, s3⟩ := hSw
    go_simp
    try (with_reducible rfl)
  refine wpAnyH_take (i := 56) (v := ?_) rfl (by as_aux_lemma => kernel_rfl) (by as_aux_lemma => kernel_rfl) (by as_aux_lemma => kernel_rfl) (fun _ _ _ h => h) (Or.inl ⟨by as_aux_lemma => kernel_rfl, ?_⟩) hHeld ?_
  rotate_left
  · intro w hSw
    obtain ⟨s1, s2, s3⟩ := hSw
    go_simp
    try (with_reducible rfl)
  refine wpAnyH_take (i := 59) (v := ?_) rfl (by as_aux_lemma => kernel_rfl) (by as_aux_lemma => kernel_rfl) (by as_aux_lemma => kernel_rfl) (fun _ _ _ h => h) (Or.inl ⟨by as_aux_lemma => kernel_rfl, ?_⟩) hHeld ?_
  rotate_left
  · intro w hSw
    obtain ⟨s1, s2, s3⟩ := hSw
    go_simp
    try (with_reducible rfl)
  refine wpAnyH_take (i := 61) (v := ?_) rfl (by as_aux_lemma => kernel_rfl) (by as_aux_lemma => kernel_rfl) (by as_aux_lemma => kernel_rfl) (fun _ _ _ h => h) (Or.inl ⟨by as_aux_lemma => kernel_rfl, ?_⟩) hHeld ?_
  rotate_left
  · intro w hSw
    obtain ⟨s1, s2, s3⟩ := hSw
    go_simp
    try (with_reducible rfl)
  refine wpAnyH_take (i := 63) (v := ?_) rfl (by as_aux_lemma => kernel_rfl) (by as_aux_lemma => kernel_rfl) (by as_aux_lemma => kernel_rfl) (fun _ _ _ h => h) (Or.inl ⟨by as_aux_lemma => kernel_rfl, ?_⟩) hHeld ?_
  rotate_left
  · intro w hSw
    obtain ⟨s1, s2, s3⟩ := hSw
    go_simp
    try (with_reducible rfl)
  refine wpAnyH_take (i := 66) (v := ?_) rfl (by as_aux_lemma => kernel_rfl) (by as_aux_lemma => kernel_rfl) (by as_aux_lemma => kernel_rfl) (fun _ _ _ h => h) (Or.inl ⟨by as_aux_lemma => kernel_rfl, ?_⟩) hHeld ?_
  rotate_left
  · intro w hSw
    obtain ⟨s1, s2, s3⟩ := hSw
    go_simp
    try (with_reducible rfl)
  refine wpAnyH_ready (rs := [57]) (by as_aux_lemma => kernel_rfl) (by simp) ?_
  refine AllReadyH.cons rfl (fun K hK => ?_) AllReadyH.nil
  go_simp
  go_at_call 17
  refine (vtwo38 2 _ _ ma mb _ K18.out.xa K18.out.xb).mono ?_
  rintro e wq19 ⟨mq19, rfl, hz, hb⟩
  have K19 := Lib.hid (K18.out.below hb)
  have V19_y8 := Lib.hid hz
  clear hz
  have HS := hs3 K19.out
  clear hb K18
  go_simp
  refine hK.out _ _ HS (fun hHeld => ?_)
  clear hK K
  clear HS
  refine wpAnyH_ready (rs := [58]) (by as_aux_lemma => kernel_rfl) (by simp) ?_
  refine AllReadyH.cons rfl (fun K hK => ?_) AllReadyH.nil
  go_simp
  go_at_call 16
  refine (vnot38 _ mq19 _ V19_y8.out).mono ?_
  rintro e wq20 ⟨mq20, rfl, hz, hb⟩
  have K20 := Lib.hid (K19.out.below hb)
  clear V19_y8
  have V20_y9 := Lib.hid hz
  clear hz
  have HS := hs3 K20.out
  clear hb K19
  go_simp
  refine hK.out _ _ HS (fun hHeld => ?_)
  clear hK K
  clear HS
  refine wpAnyH_ready (rs := [60]) (by as_aux_lemma => kernel_rfl) (by simp) ?_
  refine AllReadyH.cons rfl (fun K hK => ?_) AllReadyH.nil
  go_simp
  go_at_call 15
  refine (K20.out.ev HXO.out V20_y9.out LV.out.nob).mono ?_
  rintro e wq21 ⟨rfl, hb⟩
  have K21 := Lib.hid (K20.out.below hb)
  clear V20_y9
  have HS := hs3 K21.out
  clear hb K20
  go_simp
  refine hK.out _ _ HS (fun hHeld => ?_)
  clear hK K
  clear HS
  refine wpAnyH_ready (rs := [62]) (by as_aux_lemma => kernel_rfl) (by simp) ?_
  refine AllReadyH.cons rfl (fun K hK => ?_) AllReadyH.nil
  go_simp
  go_at_call 16
  refine (vnot38 _ ma _ K21.out.xa).mono ?_
  rintro e wq22 ⟨mq22, rfl, hz, hb⟩
  have K22 := Lib.hid (K21.out.below hb)
  have V22_n3 := Lib.hid hz
  clear hz
  have HS := hs3 K22.out
  clear hb K21
  go_simp
  refine hK.out _ _ HS (fun hHeld => ?_)
  clear hK K
  clear HS
  refine wpAnyH_ready (rs := [64]) (by as_aux_lemma => kernel_rfl) (by simp) ?_
  refine AllReadyH.cons rfl (fun K hK => ?_) AllReadyH.nil
  go_simp
  go_at_call 16
  refine (vnot38 _ mb _ K22.out.xb).mono ?_
  rintro e wq23 ⟨mq23, rfl, hz, hb⟩
  have K23 := Lib.hid (K22.out.below hb)
  have V23_n3 := Lib.hid (V22_n3.out.bel hb)
  clear V22_n3
  have V23_n4 := Lib.hid hz
  clear hz
  have HS := hs3 K23.out
  clear hb K22
  go_simp
  refine hK.out _ _ HS (fun hHeld => ?_)
  clear hK K
  clear HS
  refine wpAnyH_ready (rs := [65]) (by as_aux_lemma => kernel_rfl) (by simp) ?_
  refine AllReadyH.cons rfl (fun K hK => ?_) AllReadyH.nil
  go_simp
  go_at_call 17
  refine (vtwo38 1 _ _ mq22 mq23 _ V23_n3.out V23_n4.out).mono ?_
  rintro e wq24 ⟨mq24, rfl, hz, hb⟩
  have K24 := Lib.hid (K23.out.below hb)
  clear V23_n3
  clear V23_n4
  have V24_y10 := Lib.hid hz
  clear hz
  have HS := hs3 K24.out
  clear hb K23
  go_simp
  refine hK.out _ _ HS (fun hHeld => ?_)
  clear hK K
  clear HS
  refine wpAnyH_ready (rs := [67]) (by as_aux_lemma => kernel_rfl) (by simp) ?_
  refine AllReadyH.cons rfl (fun K hK => ?_) AllReadyH.nil
  go_simp
  go_at_call 15
  refine (K24.out.ev HXO.out V24_y10.out LV.out.ann).mono ?_
  rintro e wq25 ⟨rfl, hb⟩
  have K25 := Lib.hid (K24.out.below hb)
  clear V24_y10
  have HS := hs3 K25.out
  clear hb K24
  go_simp
  refine hK.out _ _ HS (fun hHeld => ?_)
  clear hK K
  clear HS
  refine wpAnyH_take (i := 68) (v := ?_) rfl (by as_aux_lemma => kernel_rfl) (by as_aux_lemma => kernel_rfl) (by as_aux_lemma => kernel_rfl) (fun _ _ _ h => h) (Or.inl ⟨by as_aux_lemma => kernel_rfl, ?_⟩) hHeld ?_
  rotate_left
  · intro w hSw
    obtain ⟨s1, s2, s3⟩ := hSw
    go_simp
    try (with_reducible rfl)
  refine wpAnyH_take (i := 69) (v := ?_) rfl (by as_aux_lemma => kernel_rfl) (by as_aux_lemma => kernel_rfl) (by as_aux_lemma => kernel_rfl) (fun _ _ _ h => h) (Or.inl ⟨by as_aux_lemma => kernel_rfl, ?_⟩) hHeld ?_
  rotate_left
  · intro w hSw
    obtain ⟨s1, s2, s3⟩ := hSw
    go_simp
    try (with_reducible rfl)
  refine wpAnyH_take (i := 70) (v := ?_) rfl (by as_aux_lemma => kernel_rfl) (by as_aux_lemma => kernel_rfl) (by as_aux_lemma => kernel_rfl) (fun _ _ _ h => h) (Or.inl ⟨by as_aux_lemma => kernel_rfl, ?_⟩) hHeld ?_
  rotate_left
  · intro w hSw
    obtain ⟨s1, s2, s3⟩ := hSw
    go_simp
    try (with_reducible rfl)
  refine wpAnyH_take (i := 71) (v := ?_) rfl (by as_aux_lemma => kernel_rfl) (by as_aux_lemma => kernel_rfl) (by as_aux_lemma => kernel_rfl) (fun _ _ _ h => h) (Or.inl ⟨by as_aux_lemma => kernel_rfl, ?_⟩) hHeld ?_
  rotate_left
  · intro w hSw
    obtain ⟨s1, s2, s3⟩ := hSw
    go_simp
    try (with_reducible rfl)
  refine wpAnyH_take (i := 72) (v := ?_) rfl (by as_aux_lemma => kernel_rfl) (by as_aux_lemma => kernel_rfl) (by as_aux_lemma => kernel_rfl) (fun _ _ _ h => h) (Or.inl ⟨by as_aux_lemma => kernel_rfl, ?_⟩) hHeld ?_
  rotate_left
  · intro w hSw
    obtain ⟨s1, s2, s3⟩ := hSw
    go_simp
    try (with_reducible rfl)
  refine wpAnyH_take (i := 74) (v := ?_) rfl (by as_aux_lemma => kernel_rfl) (by as_aux_lemma => kernel_rfl) (by as_aux_lemma => kernel_rfl) (fun _ _ _ h => h) (Or.inl ⟨by as_aux_lemma => kernel_rfl, ?_⟩) hHeld ?_
  rotate_left
  · intro w hSw
    obtain ⟨s1, s2, s3⟩ := hSw
    go_simp
    try (with_reducible rfl)
  refine wpAnyH_take (i := 77) (v := ?_) rfl (by as_aux_lemma => kernel_rfl) (by as_aux_lemma => kernel_rfl) (by as_aux_lemma => kernel_rfl) (fun _ _ _ h => h) (Or.inl ⟨by as_aux_lemma => kernel_rfl, ?_⟩) hHeld ?_
  rotate_left
  · intro w hSw
    obtain ⟨s1, s2, s3⟩ := hSw
    go_simp
    try (with_reducible rfl)
  refine wpAnyH_take (i := 78) (v := ?_) rfl (by as_aux_lemma => kernel_rfl) (by as_aux_lemma => kernel_rfl) (by as_aux_lemma => kernel_rfl) (fun _ _ _ h => h) (Or.inl ⟨by as_aux_lemma => kernel_rfl, ?_⟩) hHeld ?_
  rotate_left
  · intro w hSw
    obtain ⟨s1, s2, s3⟩ := hSw
    go_simp
    try (with_reducible rfl)
  refine wpAnyH_ready (rs := [73]) (by as_aux_lemma => kernel_rfl) (by simp) ?_
  refine AllReadyH.cons rfl (fun K hK => ?_) AllReadyH.nil
  go_simp
  go_at_call 17
  refine (vtwo38 1 _ _ ma mb _ K25.out.xa K25.out.xb).mono ?_
  rintro e wq26 ⟨mq26, rfl, hz, hb⟩
  have K26 := Lib.hid (K25.out.below hb)
  have V26_z1 := Lib.hid hz
  clear hz
  have HS := hs3 K26.out
  clear hb K25
  go_simp
  refine hK.out _ _ HS (fun hHeld => ?_)
  clear hK K
  clear HS
  refine wpAnyH_ready (rs := [75]) (by as_aux_lemma => kernel_rfl) (by simp) ?_
  refine AllReadyH.cons rfl (fun K hK => ?_) AllReadyH.nil
  go_simp
  go_at_call 15
  refine (K26.out.ev HXO.out V26_z1.out LV.out.ab).mono ?_
  rintro e wq27 ⟨rfl, hb⟩
  have K27 := Lib.hid (K26.out.below hb)
  clear V26_z1
  have HS := hs3 K27.out
  clear hb K26
  go_simp
  refine hK.out _ _ HS (fun hHeld => ?_)
  clear hK K
  clear HS
  cases h1 : (va == 1) <;> cases h2 : (vb == 1)
  · have qA : (vA == 1) = false := by rw [LV.out.hA, h1, h2]; rfl
    have qO : (vO == 1) = false := by rw [LV.out.hO, h1, h2]; rfl
    refine wpAnyH_take (i := 76) (v := ?_) rfl (by as_aux_lemma => kernel_rfl) (by as_aux_lemma => kernel_rfl) (by as_aux_lemma => kernel_rfl) (fun _ _ _ h => h) (Or.inl ⟨by as_aux_lemma => kernel_rfl, ?_⟩) hHeld ?_
    rotate_left
    · intro w hSw
      obtain ⟨s1, s2, s3⟩ := hSw
      go_simp
      try (with_reducible rfl)
    refine wpAnyH_take (i := 79) (v := ?_) rfl (by as_aux_lemma => kernel_rfl) (by as_aux_lemma => kernel_rfl) (by as_aux_lemma => kernel_rfl) (fun _ _ _ h => h) (Or.inl ⟨by as_aux_lemma => kernel_rfl, ?_⟩) hHeld ?_
    rotate_left
    · intro w hSw
      obtain ⟨s1, s2, s3⟩ := hSw
      go_simp
      try (with_reducible rfl)
    refine wpAnyH_take (i := 80) (v := undef) rfl (by as_aux_lemma => kernel_rfl) (by as_aux_lemma => kernel_rfl) (by as_aux_lemma => kernel_rfl) (fun _ _ _ h => h) (Or.inr ⟨by as_aux_lemma => kernel_rfl, rfl⟩) hHeld ?_
    refine wpAnyH_take (i := 81) (v := undef) rfl (by as_aux_lemma => kernel_rfl) (by as_aux_lemma => kernel_rfl) (by as_aux_lemma => kernel_rfl) (fun _ _ _ h => h) (Or.inr ⟨by as_aux_lemma => kernel_rfl, rfl⟩) hHeld ?_
    refine wpAnyH_take (i := 82) (v := ?_) rfl (by as_aux_lemma => kernel_rfl) (by as_aux_lemma => kernel_rfl) (by as_aux_lemma => kernel_rfl) (fun _ _ _ h => h) (Or.inl ⟨by as_aux_lemma => kernel_rfl, ?_⟩) hHeld ?_
    rotate_left
    · intro w hSw
      obtain ⟨s1, s2, s3⟩ := hSw
      go_simp
      try (with_reducible rfl)
    refine wpAnyH_take (i := 83) (v := ?_) rfl (by as_aux_lemma => kernel_rfl) (by as_aux_lemma => kernel_rfl) (by as_aux_lemma => kernel_rfl) (fun _ _ _ h => h) (Or.inl ⟨by as_aux_lemma => kernel_rfl, ?_⟩) hHeld ?_
    rotate_left
    · intro w hSw
      obtain ⟨s1, s2, s3⟩ := hSw
      go_simp
      try (with_reducible rfl)
    refine wpAnyH_take (i := 84) (v := ?_) rfl (by as_aux_lemma => kernel_rfl) (by as_aux_lemma => kernel_rfl) (by as_aux_lemma => kernel_rfl) (fun _ _ _ h => h) (Or.inl ⟨by as_aux_lemma => kernel_rfl, ?_⟩) hHeld ?_
    rotate_left
    · intro w hSw
      obtain ⟨s1, s2, s3⟩ := hSw
      go_simp
      try (with_reducible rfl)
    refine wpAnyH_take (i := 85) (v := ?_) rfl (by as_aux_lemma => kernel_rfl) (by as_aux_lemma => kernel_rfl) (by as_aux_lemma => kernel_rfl) (fun _ _ _ h => h) (Or.inl ⟨by as_aux_lemma => kernel_rfl, ?_⟩) hHeld ?_
    rotate_left
    · intro w hSw
      obtain ⟨s1, s2, s3⟩ := hSw
      go_simp
      try (with_reducible rfl)
    refine wpAnyH_take (i := 86) (v := ?_) rfl (by as_aux_lemma => kernel_rfl) (by as_aux_lemma => kernel_rfl) (by as_aux_lemma => kernel_rfl) (fun _ _ _ h => h) (Or.inl ⟨by as_aux_lemma => kernel_rfl, ?_⟩) hHeld ?_
    rotate_left
    · intro w hSw
      obtain ⟨s1, s2, s3⟩ := hSw
      go_simp
      try (with_reducible rfl)
    refine wpAnyH_take (i := 87) (v := ?_) rfl (by as_aux_lemma => kernel_rfl) (by as_aux_lemma => kernel_rfl) (by as_aux_lemma => kernel_rfl) (fun _ _ _ h => h) (Or.inl ⟨by as_aux_lemma => kernel_rfl, ?_⟩) hHeld ?_
    rotate_left
    · intro w hSw
      obtain ⟨s1, s2, s3⟩ := hSw
      go_simp
      try (with_reducible rfl)
    refine wpAnyH_take (i := 89) (v := ?_) rfl (by as_aux_lemma => kernel_rfl) (by as_aux_lemma => kernel_rfl) (by as_aux_lemma => kernel_rfl) (fun _ _ _ h => h) (Or.inl ⟨by as_aux_lemma => kernel_rfl, ?_⟩) hHeld ?_
    rotate_left
    · intro w hSw
      obtain ⟨s1, s2, s3⟩ := hSw
      go_simp
      try (with_reducible rfl)
    refine wpAnyH_take (i := 92) (v := ?_) rfl (by as_aux_lemma => kernel_rfl) (by as_aux_lemma => kernel_rfl) (by as_aux_lemma => kernel_rfl) (fun _ _ _ h => h) (Or.inl ⟨by as_aux_lemma => kernel_rfl, ?_⟩) hHeld ?_
    rotate_left
    · intro w hSw
      obtain ⟨s1, s2, s3⟩ := hSw
      go_simp
      try (with_reducible rfl)
    refine wpAnyH_take (i := 93) (v := ?_) rfl (by as_aux_lemma => kernel_rfl) (by as_aux_lemma => kernel_rfl) (by as_aux_lemma => kernel_rfl) (fun _ _ _ h => h) (Or.inl ⟨by as_aux_lemma => kernel_rfl, ?_⟩) hHeld ?_
    rotate_left
    · intro w hSw
      obtain ⟨s1, s2, s3⟩ := hSw
      go_simp
      try (with_reducible rfl)
    refine wpAnyH_ready (rs := [88]) (by as_aux_lemma => kernel_rfl) (by simp) ?_
    refine AllReadyH.cons rfl (fun K hK => ?_) AllReadyH.nil
    go_simp
    go_at_call 17
    refine (vtwo38 2 _ _ ma mb _ K27.out.xa K27.out.xb).mono ?_
    rintro e wq28 ⟨mq28, rfl, hz, hb⟩
    have K28 := Lib.hid (K27.out.below hb)
    have V28_z2 := Lib.hid hz
    clear hz
    have HS := hs3 K28.out
    clear hb K27
    go_simp
    refine hK.out _ _ HS (fun hHeld => ?_)
    clear hK K
    clear HS
    refine wpAnyH_ready (rs := [90]) (by as_aux_lemma => kernel_rfl) (by simp) ?_
    refine AllReadyH.cons rfl (fun K hK => ?_) AllReadyH.nil
    go_simp
    go_at_call 15
    refine (K28.out.ev HXO.out V28_z2.out LV.out.ob).mono ?_
    rintro e wq29 ⟨rfl, hb⟩
    have K29 := Lib.hid (K28.out.below hb)
    clear V28_z2
    have HS := hs3 K29.out
    clear hb K28
    go_simp
    refine hK.out _ _ HS (fun hHeld => ?_)
    clear hK K
    clear HS
    refine wpAnyH_take (i := 91) (v := ?_) rfl (by as_aux_lemma => kernel_rfl) (by as_aux_lemma => kernel_rfl) (by as_aux_lemma => kernel_rfl) (fun _ _ _ h => h) (Or.inl ⟨by as_aux_lemma => kernel_rfl, ?_⟩) hHeld ?_
    rotate_left
    · intro w hSw
      obtain ⟨s1, s2, s3⟩ := hSw
      go_simp
      try (with_reducible rfl)
    refine wpAnyH_take (i := 94) (v := ?_) rfl (by as_aux_lemma => kernel_rfl) (by as_aux_lemma => kernel_rfl) (by as_aux_lemma => kernel_rfl) (fun _ _ _ h => h) (Or.inl ⟨by as_aux_lemma => kernel_rfl, ?_⟩) hHeld ?_
    rotate_left
    · intro w hSw
      obtain ⟨s1, s2, s3⟩ := hSw
      go_simp
      try (with_reducible rfl)
    refine wpAnyH_take (i := 95) (v := ?_) rfl (by as_aux_lemma => kernel_rfl) (by as_aux_lemma => kernel_rfl) (by as_aux_lemma => kernel_rfl) (fun _ _ _ h => h) (Or.inl ⟨by as_aux_lemma => kernel_rfl, ?_⟩) hHeld ?_
    rotate_left
    · intro w hSw
      obtain ⟨s1, s2, s3⟩ := hSw
      go_simp
      try (with_reducible rfl)
    refine wpAnyH_take (i := 96) (v := ?_) rfl (by as_aux_lemma => kernel_rfl) (by as_aux_lemma => kernel_rfl) (by as_aux_lemma => kernel_rfl) (fun _ _ _ h => h) (Or.inl ⟨by as_aux_lemma => kernel_rfl, ?_⟩) hHeld ?_
    rotate_left
    · intro w hSw
      obtain ⟨s1, s2, s3⟩ := hSw
      go_simp
      try (with_reducible rfl)
    refine wpAnyH_take (i := 97) (v := ?_) rfl (by as_aux_lemma => kernel_rfl) (by as_aux_lemma => kernel_rfl) (by as_aux_lemma => kernel_rfl) (fun _ _ _ h => h) (Or.inl ⟨by as_aux_lemma => kernel_rfl, ?_⟩) hHeld ?_
    rotate_left
    · intro w hSw
      obtain ⟨s1, s2, s3⟩ := hSw
      go_simp
      try (with_reducible rfl)
    refine wpAnyH_take (i := 98) (v := ?_) rfl (by as_aux_lemma => kernel_rfl) (by as_aux_lemma => kernel_rfl) (by as_aux_lemma => kernel_rfl) (fun _ _ _ h => h) (Or.inl ⟨by as_aux_lemma => kernel_rfl, ?_⟩) hHeld ?_
    rotate_left
    · intro w hSw
      obtain ⟨s1, s2, s3⟩ := hSw
      go_simp
      try (with_reducible rfl)
    refine wpAnyH_take (i := 99) (v := ?_) rfl (by as_aux_lemma => kernel_rfl) (by as_aux_lemma => kernel_rfl) (by as_aux_lemma => kernel_rfl) (fun _ _ _ h => h) (Or.inl ⟨by as_aux_lemma => kernel_rfl, ?_⟩) hHeld ?_
    rotate_left
    · intro w hSw
      obtain ⟨s1, s2, s3⟩ := hSw
      go_simp
      try (with_reducible rfl)
    refine wpAnyH_take (i := 100) (v := ?_) rfl (by as_aux_lemma => kernel_rfl) (by as_aux_lemma => kernel_rfl) (by as_aux_lemma => kernel_rfl) (fun _ _ _ h => h) (Or.inl ⟨by as_aux_lemma => kernel_rfl, ?_⟩) hHeld ?_
    rotate_left
    · intro w hSw
      obtain ⟨s1, s2, s3⟩ := hSw
      go_simp
      try (with_reducible rfl)
    refine wpAnyH_ready (rs := [101]) (by as_aux_lemma => kernel_rfl) (by simp) ?_
    refine AllReadyH.cons rfl (fun K hK => ?_) AllReadyH.nil
    go_simp
    go_at_call 12
    refine (vbegun _ K29.out.gl).mono ?_
    rintro e wq30 ⟨rfl, hb⟩
    have K30 := Lib.hid (K29.out.below hb)
    have HS := hs3 K30.out
    clear hb K29
    go_simp
    refine hK.out _ _ HS (fun hHeld => ?_)
    clear hK K
    clear HS
    refine wpAnyH_take (i := 102) (v := ?_) rfl (by as_aux_lemma => kernel_rfl) (by as_aux_lemma => kernel_rfl) (by as_aux_lemma => kernel_rfl) (fun _ _ _ h => h) (Or.inl ⟨by as_aux_lemma => kernel_rfl, ?_⟩) hHeld ?_
    rotate_left
    · intro w hSw
      obtain ⟨s1, s2, s3⟩ := hSw
      go_simp
      try (with_reducible rfl)
    refine wpAnyH_take (i := 103) (v := ?_) rfl (by as_aux_lemma => kernel_rfl) (by as_aux_lemma => kernel_rfl) (by as_aux_lemma => kernel_rfl) (fun _ _ _ h => h) (Or.inl ⟨by as_aux_lemma => kernel_rfl, ?_⟩) hHeld ?_
    rotate_left
    · intro w hSw
      obtain ⟨s1, s2, s3⟩ := hSw
      go_simp
      try (with_reducible rfl)
    refine wpAnyH_done (by as_aux_lemma => kernel_rfl) ?_ _
    go_wp2_with fail
    go_ret
    exact ⟨rfl, K30.out.low⟩
  · have qA : (vA == 1) = false := by rw [LV.out.hA, h1, h2]; rfl
    have qO : (vO == 1) = true := by rw [LV.out.hO, h1, h2]; rfl
    refine wpAnyH_take (i := 76) (v := ?_) rfl (by as_aux_lemma => kernel_rfl) (by as_aux_lemma => kernel_rfl) (by as_aux_lemma => kernel_rfl) (fun _ _ _ h => h) (Or.inl ⟨by as_aux_lemma => kernel_rfl, ?_⟩) hHeld ?_
    rotate_left
    · intro w hSw
      obtain ⟨s1, s2, s3⟩ := hSw
      go_simp
      try (with_reducible rfl)
    refine wpAnyH_take (i := 79) (v := ?_) rfl (by as_aux_lemma => kernel_rfl) (by as_aux_lemma => kernel_rfl) (by as_aux_lemma => kernel_rfl) (fun _ _ _ h => h) (Or.inl ⟨by as_aux_lemma => kernel_rfl, ?_⟩) hHeld ?_
    rotate_left
    · intro w hSw
      obtain ⟨s1, s2, s3⟩ := hSw
      go_simp
      try (with_reducible rfl)
    refine wpAnyH_take (i := 80) (v := undef) rfl (by as_aux_lemma => kernel_rfl) (by as_aux_lemma => kernel_rfl) (by as_aux_lemma => kernel_rfl) (fun _ _ _ h => h) (Or.inr ⟨by as_aux_lemma => kernel_rfl, rfl⟩) hHeld ?_
    refine wpAnyH_take (i := 81) (v := undef) rfl (by as_aux_lemma => kernel_rfl) (by as_aux_lemma => kernel_rfl) (by as_aux_lemma => kernel_rfl) (fun _ _ _ h => h) (Or.inr ⟨by as_aux_lemma => kernel_rfl, rfl⟩) hHeld ?_
    refine wpAnyH_take (i := 82) (v := ?_) rfl (by as_aux_lemma => kernel_rfl) (by as_aux_lemma => kernel_rfl) (by as_aux_lemma => kernel_rfl) (fun _ _ _ h => h) (Or.inl ⟨by as_aux_lemma => kernel_rfl, ?_⟩) hHeld ?_
    rotate_left
    · intro w hSw
      obtain ⟨s1, s2, s3⟩ := hSw
      go_simp
      try (with_reducible rfl)
    refine wpAnyH_take (i := 83) (v := ?_) rfl (by as_aux_lemma => kernel_rfl) (by as_aux_lemma => kernel_rfl) (by as_aux_lemma => kernel_rfl) (fun _ _ _ h => h) (Or.inl ⟨by as_aux_lemma => kernel_rfl, ?_⟩) hHeld ?_
    rotate_left
    · intro w hSw
      obtain ⟨s1, s2, s3⟩ := hSw
      go_simp
      try (with_reducible rfl)
    refine wpAnyH_take (i := 84) (v := ?_) rfl (by as_aux_lemma => kernel_rfl) (by as_aux_lemma => kernel_rfl) (by as_aux_lemma => kernel_rfl) (fun _ _ _ h => h) (Or.inl ⟨by as_aux_lemma => kernel_rfl, ?_⟩) hHeld ?_
    rotate_left
    · intro w hSw
      obtain ⟨s1, s2, s3⟩ := hSw
      go_simp
      try (with_reducible rfl)
    refine wpAnyH_take (i := 85) (v := ?_) rfl (by as_aux_lemma => kernel_rfl) (by as_aux_lemma => kernel_rfl) (by as_aux_lemma => kernel_rfl) (fun _ _ _ h => h) (Or.inl ⟨by as_aux_lemma => kernel_rfl, ?_⟩) hHeld ?_
    rotate_left
    · intro w hSw
      obtain ⟨s1, s2, s3⟩ := hSw
      go_simp
      try (with_reducible rfl)
    refine wpAnyH_take (i := 86) (v := ?_) rfl (by as_aux_lemma => kernel_rfl) (by as_aux_lemma => kernel_rfl) (by as_aux_lemma => kernel_rfl) (fun _ _ _ h => h) (Or.inl ⟨by as_aux_lemma => kernel_rfl, ?_⟩) hHeld ?_
    rotate_left
    · intro w hSw
      obtain ⟨s1, s2, s3⟩ := hSw
      go_simp
      try (with_reducible rfl)
    refine wpAnyH_take (i := 87) (v := ?_) rfl (by as_aux_lemma => kernel_rfl) (by as_aux_lemma => kernel_rfl) (by as_aux_lemma => kernel_rfl) (fun _ _ _ h => h) (Or.inl ⟨by as_aux_lemma => kernel_rfl, ?_⟩) hHeld ?_
    rotate_left
    · intro w hSw
      obtain ⟨s1, s2, s3⟩ := hSw
      go_simp
      try (with_reducible rfl)
    refine wpAnyH_take (i := 89) (v := ?_) rfl (by as_aux_lemma => kernel_rfl) (by as_aux_lemma => kernel_rfl) (by as_aux_lemma => kernel_rfl) (fun _ _ _ h => h) (Or.inl ⟨by as_aux_lemma => kernel_rfl, ?_⟩) hHeld ?_
    rotate_left
    · intro w hSw
      obtain ⟨s1, s2, s3⟩ := hSw
      go_simp
      try (with_reducible rfl)
    refine wpAnyH_take (i := 92) (v := ?_) rfl (by as_aux_lemma => kernel_rfl) (by as_aux_lemma => kernel_rfl) (by as_aux_lemma => kernel_rfl) (fun _ _ _ h => h) (Or.inl ⟨by as_aux_lemma => kernel_rfl, ?_⟩) hHeld ?_
    rotate_left
    · intro w hSw
      obtain ⟨s1, s2, s3⟩ := hSw
      go_simp
      try (with_reducible rfl)
    refine wpAnyH_take (i := 93) (v := ?_) rfl (by as_aux_lemma => kernel_rfl) (by as_aux_lemma => kernel_rfl) (by as_aux_lemma => kernel_rfl) (fun _ _ _ h => h) (Or.inl ⟨by as_aux_lemma => kernel_rfl, ?_⟩) hHeld ?_
    rotate_left
    · intro w hSw
      obtain ⟨s1, s2, s3⟩ := hSw
      go_simp
      try (with_reducible rfl)
    refine wpAnyH_ready (rs := [88]) (by as_aux_lemma => kernel_rfl) (by simp) ?_
    refine AllReadyH.cons rfl (fun K hK => ?_) AllReadyH.nil
    go_simp
    go_at_call 17
    refine (vtwo38 2 _ _ ma mb _ K27.out.xa K27.out.xb).mono ?_
    rintro e wq28 ⟨mq28, rfl, hz, hb⟩
    have K28 := Lib.hid (K27.out.below hb)
    have V28_z2 := Lib.hid hz
    clear hz
    have HS := hs3 K28.out
    clear hb K27
    go_simp
    refine hK.out _ _ HS (fun hHeld => ?_)
    clear hK K
    clear HS
    refine wpAnyH_ready (rs := [90]) (by as_aux_lemma => kernel_rfl) (by simp) ?_
    refine AllReadyH.cons rfl (fun K hK => ?_) AllReadyH.nil
    go_simp
    go_at_call 15
    refine (K28.out.ev HXO.out V28_z2.out LV.out.ob).mono ?_
    rintro e wq29 ⟨rfl, hb⟩
    have K29 := Lib.hid (K28.out.below hb)
    clear V28_z2
    have HS := hs3 K29.out
    clear hb K28
    go_simp
    refine hK.out _ _ HS (fun hHeld => ?_)
    clear hK K
    clear HS
    refine wpAnyH_take (i := 91) (v := ?_) rfl (by as_aux_lemma => kernel_rfl) (by as_aux_lemma => kernel_rfl) (by as_aux_lemma => kernel_rfl) (fun _ _ _ h => h) (Or.inl ⟨by as_aux_lemma => kernel_rfl, ?_⟩) hHeld ?_
    rotate_left
    · intro w hSw
      obtain ⟨s1, s2, s3⟩ := hSw
      go_simp
      try (with_reducible rfl)
    refine wpAnyH_take (i := 94) (v := ?_) rfl (by as_aux_lemma => kernel_rfl) (by as_aux_lemma => kernel_rfl) (by as_aux_lemma => kernel_rfl) (fun _ _ _ h => h) (Or.inl ⟨by as_aux_lemma => kernel_rfl, ?_⟩) hHeld ?_
    rotate_left
    · intro w hSw
      obtain ⟨s1, s2, s3⟩ := hSw
      go_simp
      try (with_reducible rfl)
    refine wpAnyH_take (i := 95) (v := ?_) rfl (by as_aux_lemma => kernel_rfl) (by as_aux_lemma => kernel_rfl) (by as_aux_lemma => kernel_rfl) (fun _ _ _ h => h) (Or.inl ⟨by as_aux_lemma => kernel_rfl, ?_⟩) hHeld ?_
    rotate_left
    · intro w hSw
      obtain ⟨s1, s2, s3⟩ := hSw
      go_simp
      try (with_reducible rfl)
    refine wpAnyH_take (i := 96) (v := ?_) rfl (by as_aux_lemma => kernel_rfl) (by as_aux_lemma => kernel_rfl) (by as_aux_lemma => kernel_rfl) (fun _ _ _ h => h) (Or.inl ⟨by as_aux_lemma => kernel_rfl, ?_⟩) hHeld ?_
    rotate_left
    · intro w hSw
      obtain ⟨s1, s2, s3⟩ := hSw
      go_simp
      try (with_reducible rfl)
    refine wpAnyH_take (i := 97) (v := ?_) rfl (by as_aux_lemma => kernel_rfl) (by as_aux_lemma => kernel_rfl) (by as_aux_lemma => kernel_rfl) (fun _ _ _ h => h) (Or.inl ⟨by as_aux_lemma => kernel_rfl, ?_⟩) hHeld ?_
    rotate_left
    · intro w hSw
      obtain ⟨s1, s2, s3⟩ := hSw
      go_simp
      try (with_reducible rfl)
    refine wpAnyH_take (i := 98) (v := ?_) rfl (by as_aux_lemma => kernel_rfl) (by as_aux_lemma => kernel_rfl) (by as_aux_lemma => kernel_rfl) (fun _ _ _ h => h) (Or.inl ⟨by as_aux_lemma => kernel_rfl, ?_⟩) hHeld ?_
    rotate_left
    · intro w hSw
      obtain ⟨s1, s2, s3⟩ := hSw
      go_simp
      try (with_reducible rfl)
    refine wpAnyH_take (i := 99) (v := ?_) rfl (by as_aux_lemma => kernel_rfl) (by as_aux_lemma => kernel_rfl) (by as_aux_lemma => kernel_rfl) (fun _ _ _ h => h) (Or.inl ⟨by as_aux_lemma => kernel_rfl, ?_⟩) hHeld ?_
    rotate_left
    · intro w hSw
      obtain ⟨s1, s2, s3⟩ := hSw
      go_simp
      try (with_reducible rfl)
    refine wpAnyH_take (i := 100) (v := ?_) rfl (by as_aux_lemma => kernel_rfl) (by as_aux_lemma => kernel_rfl) (by as_aux_lemma => kernel_rfl) (fun _ _ _ h => h) (Or.inl ⟨by as_aux_lemma => kernel_rfl, ?_⟩) hHeld ?_
    rotate_left
    · intro w hSw
      obtain ⟨s1, s2, s3⟩ := hSw
      go_simp
      try (with_reducible rfl)
    refine wpAnyH_ready (rs := [101]) (by as_aux_lemma => kernel_rfl) (by simp) ?_
    refine AllReadyH.cons rfl (fun K hK => ?_) AllReadyH.nil
    go_simp
    go_at_call 12
    refine (vbegun _ K29.out.gl).mono ?_
    rintro e wq30 ⟨rfl, hb⟩
    have K30 := Lib.hid (K29.out.below hb)
    have HS := hs3 K30.out
    clear hb K29
    go_simp
    refine hK.out _ _ HS (fun hHeld => ?_)
    clear hK K
    clear HS
    refine wpAnyH_take (i := 102) (v := ?_) rfl (by as_aux_lemma => kernel_rfl) (by as_aux_lemma => kernel_rfl) (by as_aux_lemma => kernel_rfl) (fun _ _ _ h => h) (Or.inl ⟨by as_aux_lemma => kernel_rfl, ?_⟩) hHeld ?_
    rotate_left
    · intro w hSw
      obtain ⟨s1, s2, s3⟩ := hSw
      go_simp
      try (with_reducible rfl)
    refine wpAnyH_take (i := 103) (v := ?_) rfl (by as_aux_lemma => kernel_rfl) (by as_aux_lemma => kernel_rfl) (by as_aux_lemma => kernel_rfl) (fun _ _ _ h => h) (Or.inl ⟨by as_aux_lemma => kernel_rfl, ?_⟩) hHeld ?_
    rotate_left
    · intro w hSw
      obtain ⟨s1, s2, s3⟩ := hSw
      go_simp
      try (with_reducible rfl)
    refine wpAnyH_done (by as_aux_lemma => kernel_rfl) ?_ _
    go_wp2_with fail
    go_ret
    exact ⟨rfl, K30.out.low⟩
  · have qA : (vA == 1) = false := by rw [LV.out.hA, h1, h2]; rfl
    have qO : (vO == 1) = true := by rw [LV.out.hO, h1, h2]; rfl
    refine wpAnyH_take (i := 76) (v := ?_) rfl (by as_aux_lemma => kernel_rfl) (by as_aux_lemma => kernel_rfl) (by as_aux_lemma => kernel_rfl) (fun _ _ _ h => h) (Or.inl ⟨by as_aux_lemma => kernel_rfl, ?_⟩) hHeld ?_
    rotate_left
    · intro w hSw
      obtain ⟨s1, s2, s3⟩ := hSw
      go_simp
      try (with_reducible rfl)
    refine wpAnyH_take (i := 79) (v := ?_) rfl (by as_aux_lemma => kernel_rfl) (by as_aux_lemma => kernel_rfl) (by as_aux_lemma => kernel_rfl) (fun _ _ _ h => h) (Or.inl ⟨by as_aux_lemma => kernel_rfl, ?_⟩) hHeld ?_
    rotate_left
    · intro w hSw
      obtain ⟨s1, s2, s3⟩ := hSw
      go_simp
      try (with_reducible rfl)
    refine wpAnyH_take (i := 80) (v := ?_) rfl (by as_aux_lemma => kernel_rfl) (by as_aux_lemma => kernel_rfl) (by as_aux_lemma => kernel_rfl) (fun _ _ _ h => h) (Or.inl ⟨by as_aux_lemma => kernel_rfl, ?_⟩) hHeld ?_
    rotate_left
    · intro w hSw
      obtain ⟨s1, s2, s3⟩ := hSw
      go_simp
      try (with_reducible rfl)
    refine wpAnyH_take (i := 81) (v := ?_) rfl (by as_aux_lemma => kernel_rfl) (by as_aux_lemma => kernel_rfl) (by as_aux_lemma => kernel_rfl) (fun _ _ _ h => h) (Or.inl ⟨by as_aux_lemma => kernel_rfl, ?_⟩) hHeld ?_
    rotate_left
    · intro w hSw
      obtain ⟨s1, s2, s3⟩ := hSw
      go_simp
      try (with_reducible rfl)
    refine wpAnyH_take (i := 82) (v := ?_) rfl (by as_aux_lemma => kernel_rfl) (by as_aux_lemma => kernel_rfl) (by as_aux_lemma => kernel_rfl) (fun _ _ _ h => h) (Or.inl ⟨by as_aux_lemma => kernel_rfl, ?_⟩) hHeld ?_
    rotate_left
    · intro w hSw
      obtain ⟨s1, s2, s3⟩ := hSw
      go_simp
      try (with_reducible rfl)
    refine wpAnyH_take (i := 83) (v := ?_) rfl (by as_aux_lemma => kernel_rfl) (by as_aux_lemma => kernel_rfl) (by as_aux_lemma => kernel_rfl) (fun _ _ _ h => h) (Or.inl ⟨by as_aux_lemma => kernel_rfl, ?_⟩) hHeld ?_
    rotate_left
    · intro w hSw
      obtain ⟨s1, s2, s3⟩ := hSw
      go_simp
      try (with_reducible rfl)
    refine wpAnyH_take (i := 84) (v := ?_) rfl (by as_aux_lemma => kernel_rfl) (by as_aux_lemma => kernel_rfl) (by as_aux_lemma => kernel_rfl) (fun _ _ _ h => h) (Or.inl ⟨by as_aux_lemma => kernel_rfl, ?_⟩) hHeld ?_
    rotate_left
    · intro w hSw
      obtain ⟨s1, s2, s3⟩ := hSw
      go_simp
      try (with_reducible rfl)
    refine wpAnyH_take (i := 85) (v := ?_) rfl (by as_aux_lemma => kernel_rfl) (by as_aux_lemma => kernel_rfl) (by as_aux_lemma => kernel_rfl) (fun _ _ _ h => h) (Or.inl ⟨by as_aux_lemma => kernel_rfl, ?_⟩) hHeld ?_
    rotate_left
    · intro w hSw
      obtain ⟨s1, s2, s3⟩ := hSw
      go_simp
      try (with_reducible rfl)
    refine wpAnyH_take (i := 86) (v := ?_) rfl (by as_aux_lemma => kernel_rfl) (by as_aux_lemma => kernel_rfl) (by as_aux_lemma => kernel_rfl) (fun _ _ _ h => h) (Or.inl ⟨by as_aux_lemma => kernel_rfl, ?_⟩) hHeld ?_
    rotate_left
    · intro w hSw
      obtain ⟨s1, s2, s3⟩ := hSw
      go_simp
      try (with_reducible rfl)
    refine wpAnyH_take (i := 87) (v := ?_) rfl (by as_aux_lemma => kernel_rfl) (by as_aux_lemma => kernel_rfl) (by as_aux_lemma => kernel_rfl) (fun _ _ _ h => h) (Or.inl ⟨by as_aux_lemma => kernel_rfl, ?_⟩) hHeld ?_
    rotate_left
    · intro w hSw
      obtain ⟨s1, s2, s3⟩ := hSw
      go_simp
      try (with_reducible rfl)
    refine wpAnyH_take (i := 89) (v := ?_) rfl (by as_aux_lemma => kernel_rfl) (by as_aux_lemma => kernel_rfl) (by as_aux_lemma => kernel_rfl) (fun _ _ _ h => h) (Or.inl ⟨by as_aux_lemma => kernel_rfl, ?_⟩) hHeld ?_
    rotate_left
    · intro w hSw
      obtain ⟨s1, s2, s3⟩ := hSw
      go_simp
      try (with_reducible rfl)
    refine wpAnyH_take (i := 92) (v := ?_) rfl (by as_aux_lemma => kernel_rfl) (by as_aux_lemma => kernel_rfl) (by as_aux_lemma => kernel_rfl) (fun _ _ _ h => h) (Or.inl ⟨by as_aux_lemma => kernel_rfl, ?_⟩) hHeld ?_
    rotate_left
    · intro w hSw
      obtain ⟨s1, s2, s3⟩ := hSw
      go_simp
      try (with_reducible rfl)
    refine wpAnyH_take (i := 93) (v := ?_) rfl (by as_aux_lemma => kernel_rfl) (by as_aux_lemma => kernel_rfl) (by as_aux_lemma => kernel_rfl) (fun _ _ _ h => h) (Or.inl ⟨by as_aux_lemma => kernel_rfl, ?_⟩) hHeld ?_
    rotate_left
    · intro w hSw
      obtain ⟨s1, s2, s3⟩ := hSw
      go_simp
      try (with_reducible rfl)
    refine wpAnyH_ready (rs := [88]) (by as_aux_lemma => kernel_rfl) (by simp) ?_
    refine AllReadyH.cons rfl (fun K hK => ?_) AllReadyH.nil
    go_simp
    go_at_call 17
    refine (vtwo38 2 _ _ ma mb _ K27.out.xa K27.out.xb).mono ?_
    rintro e wq28 ⟨mq28, rfl, hz, hb⟩
    have K28 := Lib.hid (K27.out.below hb)
    have V28_z2 := Lib.hid hz
    clear hz
    have HS := hs3 K28.out
    clear hb K27
    go_simp
    refine hK.out _ _ HS (fun hHeld => ?_)
    clear hK K
    clear HS
    refine wpAnyH_ready (rs := [90]) (by as_aux_lemma => kernel_rfl) (by simp) ?_
    refine AllReadyH.cons rfl (fun K hK => ?_) AllReadyH.nil
    go_simp
    go_at_call 15
    refine (K28.out.ev HXO.out V28_z2.out LV.out.ob).mono ?_
    rintro e wq29 ⟨rfl, hb⟩
    have K29 := Lib.hid (K28.out.below hb)
    clear V28_z2
    have HS := hs3 K29.out
    clear hb K28
    go_simp
    refine hK.out _ _ HS (fun hHeld => ?_)
    clear hK K
    clear HS
    refine wpAnyH_take (i := 91) (v := ?_) rfl (by as_aux_lemma => kernel_rfl) (by as_aux_lemma => kernel_rfl) (by as_aux_lemma => kernel_rfl) (fun _ _ _ h => h) (Or.inl ⟨by as_aux_lemma => kernel_rfl, ?_⟩) hHeld ?_
    rotate_left
    · intro w hSw
      obtain ⟨s1, s2, s3⟩ := hSw
      go_simp
      try (with_reducible rfl)
    refine wpAnyH_take (i := 94) (v := ?_) rfl (by as_aux_lemma => kernel_rfl) (by as_aux_lemma => kernel_rfl) (by as_aux_lemma => kernel_rfl) (fun _ _ _ h => h) (Or.inl ⟨by as_aux_lemma => kernel_rfl, ?_⟩) hHeld ?_
    rotate_left
    · intro w hSw
      obtain ⟨s1, s2, s3⟩ := hSw
      go_simp
      try (with_reducible rfl)
    refine wpAnyH_take (i := 95) (v := undef) rfl (by as_aux_lemma => kernel_rfl) (by as_aux_lemma => kernel_rfl) (by as_aux_lemma => kernel_rfl) (fun _ _ _ h => h) (Or.inr ⟨by as_aux_lemma => kernel_rfl, rfl⟩) hHeld ?_
    refine wpAnyH_take (i := 96) (v := undef) rfl (by as_aux_lemma => kernel_rfl) (by as_aux_lemma => kernel_rfl) (by as_aux_lemma => kernel_rfl) (fun _ _ _ h => h) (Or.inr ⟨by as_aux_lemma => kernel_rfl, rfl⟩) hHeld ?_
    refine wpAnyH_take (i := 97) (v := ?_) rfl (by as_aux_lemma => kernel_rfl) (by as_aux_lemma => kernel_rfl) (by as_aux_lemma => kernel_rfl) (fun _ _ _ h => h) (Or.inl ⟨by as_aux_lemma => kernel_rfl, ?_⟩) hHeld ?_
    rotate_left
    · intro w hSw
      obtain ⟨s1, s2, s3⟩ := hSw
      go_simp
      try (with_reducible rfl)
    refine wpAnyH_take (i := 98) (v := ?_) rfl (by as_aux_lemma => kernel_rfl) (by as_aux_lemma => kernel_rfl) (by as_aux_lemma => kernel_rfl) (fun _ _ _ h => h) (Or.inl ⟨by as_aux_lemma => kernel_rfl, ?_⟩) hHeld ?_
    rotate_left
    · intro w hSw
      obtain ⟨s1, s2, s3⟩ := hSw
      go_simp
      try (with_reducible rfl)
    refine wpAnyH_take (i := 99) (v := ?_) rfl (by as_aux_lemma => kernel_rfl) (by as_aux_lemma => kernel_rfl) (by as_aux_lemma => kernel_rfl) (fun _ _ _ h => h) (Or.inl ⟨by as_aux_lemma => kernel_rfl, ?_⟩) hHeld ?_
    rotate_left
    · intro w hSw
      obtain ⟨s1, s2, s3⟩ := hSw
      go_simp
      try (with_reducible rfl)
    refine wpAnyH_take (i := 100) (v := ?_) rfl (by as_aux_lemma => kernel_rfl) (by as_aux_lemma => kernel_rfl) (by as_aux_lemma => kernel_rfl) (fun _ _ _ h => h) (Or.inl ⟨by as_aux_lemma => kernel_rfl, ?_⟩) hHeld ?_
    rotate_left
    · intro w hSw
      obtain ⟨s1, s2, s3⟩ := hSw
      go_simp
      try (with_reducible rfl)
    refine wpAnyH_ready (rs := [101]) (by as_aux_lemma => kernel_rfl) (by simp) ?_
    refine AllReadyH.cons rfl (fun K hK => ?_) AllReadyH.nil
    go_simp
    go_at_call 12
    refine (vbegun _ K29.out.gl).mono ?_
    rintro e wq30 ⟨rfl, hb⟩
    have K30 := Lib.hid (K29.out.below hb)
    have HS := hs3 K30.out
    clear hb K29
    go_simp
    refine hK.out _ _ HS (fun hHeld => ?_)
    clear hK K
    clear HS
    refine wpAnyH_take (i := 102) (v := ?_) rfl (by as_aux_lemma => kernel_rfl) (by as_aux_lemma => kernel_rfl) (by as_aux_lemma => kernel_rfl) (fun _ _ _ h => h) (Or.inl ⟨by as_aux_lemma => kernel_rfl, ?_⟩) hHeld ?_
    rotate_left
    · intro w hSw
      obtain ⟨s1, s2, s3⟩ := hSw
      go_simp
      try (with_reducible rfl)
    refine wpAnyH_take (i := 103) (v := ?_) rfl (by as_aux_lemma => kernel_rfl) (by as_aux_lemma => kernel_rfl) (by as_aux_lemma => kernel_rfl) (fun _ _ _ h => h) (Or.inl ⟨by as_aux_lemma => kernel_rfl, ?_⟩) hHeld ?_
    rotate_left
    · intro w hSw
      obtain ⟨s1, s2, s3⟩ := hSw
      go_simp
      try (with_reducible rfl)
    refine wpAnyH_done (by as_aux_lemma => kernel_rfl) ?_ _
    go_wp2_with fail
    go_ret
    exact ⟨rfl, K30.out.low⟩
  · have qA : (vA == 1) = true := by rw [LV.out.hA, h1, h2]; rfl
    have qO : (vO == 1) = true := by rw [LV.out.hO, h1, h2]; rfl
    refine wpAnyH_take (i := 76) (v := ?_) rfl (by as_aux_lemma => kernel_rfl) (by as_aux_lemma => kernel_rfl) (by as_aux_lemma => kernel_rfl) (fun _ _ _ h => h) (Or.inl ⟨by as_aux_lemma => kernel_rfl, ?_⟩) hHeld ?_
    rotate_left
    · intro w hSw
      obtain ⟨s1, s2, s3⟩ := hSw
      go_simp
      try (with_reducible rfl)
    refine wpAnyH_take (i := 79) (v := ?_) rfl (by as_aux_lemma => kernel_rfl) (by as_aux_lemma => kernel_rfl) (by as_aux_lemma => kernel_rfl) (fun _ _ _ h => h) (Or.inl ⟨by as_aux_lemma => kernel_rfl, ?_⟩) hHeld ?_
    rotate_left
    · intro w hSw
      obtain ⟨s1, s2, s3⟩ := hSw
      go_simp
      try (with_reducible rfl)
    refine wpAnyH_take (i := 80) (v := ?_) rfl (by as_aux_lemma => kernel_rfl) (by as_aux_lemma => kernel_rfl) (by as_aux_lemma => kernel_rfl) (fun _ _ _ h => h) (Or.inl ⟨by as_aux_lemma => kernel_rfl, ?_⟩) hHeld ?_
    rotate_left
    · intro w hSw
      obtain ⟨s1, s2, s3⟩ := hSw
      go_simp
      try (with_reducible rfl)
    refine wpAnyH_take (i := 81) (v := ?_) rfl (by as_aux_lemma => kernel_rfl) (by as_aux_lemma => kernel_rfl) (by as_aux_lemma => kernel_rfl) (fun _ _ _ h => h) (Or.inl ⟨by as_aux_lemma => kernel_rfl, ?_⟩) hHeld ?_
    rotate_left
    · intro w hSw
      obtain ⟨s1, s2, s3⟩ := hSw
      go_simp
      try (with_reducible rfl)
    refine wpAnyH_take (i := 82) (v := ?_) rfl (by as_aux_lemma => kernel_rfl) (by as_aux_lemma => kernel_rfl) (by as_aux_lemma => kernel_rfl) (fun _ _ _ h => h) (Or.inl ⟨by as_aux_lemma => kernel_rfl, ?_⟩) hHeld ?_
    rotate_left
    · intro w hSw
      obtain ⟨s1, s2, s3⟩ := hSw
      go_simp
      try (with_reducible rfl)
    refine wpAnyH_take (i := 83) (v := ?_) rfl (by as_aux_lemma => kernel_rfl) (by as_aux_lemma => kernel_rfl) (by as_aux_lemma => kernel_rfl) (fun _ _ _ h => h) (Or.inl ⟨by as_aux_lemma => kernel_rfl, ?_⟩) hHeld ?_
    rotate_left
    · intro w hSw
      obtain ⟨s1, s2, s3⟩ := hSw
      go_simp
      try (with_reducible rfl)
    refine wpAnyH_take (i := 84) (v := ?_) rfl (by as_aux_lemma => kernel_rfl) (by as_aux_lemma => kernel_rfl) (by as_aux_lemma => kernel_rfl) (fun _ _ _ h => h) (Or.inl ⟨by as_aux_lemma => kernel_rfl, ?_⟩) hHeld ?_
    rotate_left
    · intro w hSw
      obtain ⟨s1, s2, s3⟩ := hSw
      go_simp
      try (with_reducible rfl)
    refine wpAnyH_take (i := 85) (v := ?_) rfl (by as_aux_lemma => kernel_rfl) (by as_aux_lemma => kernel_rfl) (by as_aux_lemma => kernel_rfl) (fun _ _ _ h => h) (Or.inl ⟨by as_aux_lemma => kernel_rfl, ?_⟩) hHeld ?_
    rotate_left
    · intro w hSw
      obtain ⟨s1, s2, s3⟩ := hSw
      go_simp
      try (with_reducible rfl)
    refine wpAnyH_take (i := 86) (v := ?_) rfl (by as_aux_lemma => kernel_rfl) (by as_aux_lemma => kernel_rfl) (by as_aux_lemma => kernel_rfl) (fun _ _ _ h => h) (Or.inl ⟨by as_aux_lemma => kernel_rfl, ?_⟩) hHeld ?_
    rotate_left
    · intro w hSw
      obtain ⟨s1, s2, s3⟩ := hSw
      go_simp
      try (with_reducible rfl)
    refine wpAnyH_take (i := 87) (v := ?_) rfl (by as_aux_lemma => kernel_rfl) (by as_aux_lemma => kernel_rfl) (by as_aux_lemma => kernel_rfl) (fun _ _ _ h => h) (Or.inl ⟨by as_aux_lemma => kernel_rfl, ?_⟩) hHeld ?_
    rotate_left
    · intro w hSw
      obtain ⟨s1, s2, s3⟩ := hSw
      go_simp
      try (with_reducible rfl)
    refine wpAnyH_take (i := 89) (v := ?_) rfl (by as_aux_lemma => kernel_rfl) (by as_aux_lemma => kernel_rfl) (by as_aux_lemma => kernel_rfl) (fun _ _ _ h => h) (Or.inl ⟨by as_aux_lemma => kernel_rfl, ?_⟩) hHeld ?_
    rotate_left
    · intro w hSw
      obtain ⟨s1, s2, s3⟩ := hSw
      go_simp
      try (with_reducible rfl)
    refine wpAnyH_take (i := 92) (v := ?_) rfl (by as_aux_lemma => kernel_rfl) (by as_aux_lemma => kernel_rfl) (by as_aux_lemma => kernel_rfl) (fun _ _ _ h => h) (Or.inl ⟨by as_aux_lemma => kernel_rfl, ?_⟩) hHeld ?_
    rotate_left
    · intro w hSw
      obtain ⟨s1, s2, s3⟩ := hSw
      go_simp
      try (with_reducible rfl)
    refine wpAnyH_take (i := 93) (v := ?_) rfl (by as_aux_lemma => kernel_rfl) (by as_aux_lemma => kernel_rfl) (by as_aux_lemma => kernel_rfl) (fun _ _ _ h => h) (Or.inl ⟨by as_aux_lemma => kernel_rfl, ?_⟩) hHeld ?_
    rotate_left
    · intro w hSw
      obtain ⟨s1, s2, s3⟩ := hSw
      go_simp
      try (with_reducible rfl)
    refine wpAnyH_ready (rs := [88]) (by as_aux_lemma => kernel_rfl) (by simp) ?_
    refine AllReadyH.cons rfl (fun K hK => ?_) AllReadyH.nil
    go_simp
    go_at_call 17
    refine (vtwo38 2 _ _ ma mb _ K27.out.xa K27.out.xb).mono ?_
    rintro e wq28 ⟨mq28, rfl, hz, hb⟩
    have K28 := Lib.hid (K27.out.below hb)
    have V28_z2 := Lib.hid hz
    clear hz
    have HS := hs3 K28.out
    clear hb K27
    go_simp
    refine hK.out _ _ HS (fun hHeld => ?_)
    clear hK K
    clear HS
    refine wpAnyH_ready (rs := [90]) (by as_aux_lemma => kernel_rfl) (by simp) ?_
    refine AllReadyH.cons rfl (fun K hK => ?_) AllReadyH.nil
    go_simp
    go_at_call 15
    refine (K28.out.ev HXO.out V28_z2.out LV.out.ob).mono ?_
    rintro e wq29 ⟨rfl, hb⟩
    have K29 := Lib.hid (K28.out.below hb)
    clear V28_z2
    have HS := hs3 K29.out
    clear hb K28
    go_simp
    refine hK.out _ _ HS (fun hHeld => ?_)
    clear hK K
    clear HS
    refine wpAnyH_take (i := 91) (v := ?_) rfl (by as_aux_lemma => kernel_rfl) (by as_aux_lemma => kernel_rfl) (by as_aux_lemma => kernel_rfl) (fun _ _ _ h => h) (Or.inl ⟨by as_aux_lemma => kernel_rfl, ?_⟩) hHeld ?_
    rotate_left
    · intro w hSw
      obtain ⟨s1, s2, s3⟩ := hSw
      go_simp
      try (with_reducible rfl)
    refine wpAnyH_take (i := 94) (v := ?_) rfl (by as_aux_lemma => kernel_rfl) (by as_aux_lemma => kernel_rfl) (by as_aux_lemma => kernel_rfl) (fun _ _ _ h => h) (Or.inl ⟨by as_aux_lemma => kernel_rfl, ?_⟩) hHeld ?_
    rotate_left
    · intro w hSw
      obtain ⟨s1, s2, s3⟩ := hSw
      go_simp
      try (with_reducible rfl)
    refine wpAnyH_take (i := 95) (v := undef) rfl (by as_aux_lemma => kernel_rfl) (by as_aux_lemma => kernel_rfl) (by as_aux_lemma => kernel_rfl) (fun _ _ _ h => h) (Or.inr ⟨by as_aux_lemma => kernel_rfl, rfl⟩) hHeld ?_
    refine wpAnyH_take (i := 96) (v := undef) rfl (by as_aux_lemma => kernel_rfl) (by as_aux_lemma => kernel_rfl) (by as_aux_lemma => kernel_rfl) (fun _ _ _ h => h) (Or.inr ⟨by as_aux_lemma => kernel_rfl, rfl⟩) hHeld ?_
    refine wpAnyH_take (i := 97) (v := ?_) rfl (by as_aux_lemma => kernel_rfl) (by as_aux_lemma => kernel_rfl) (by as_aux_lemma => kernel_rfl) (fun _ _ _ h => h) (Or.inl ⟨by as_aux_lemma => kernel_rfl, ?_⟩) hHeld ?_
    rotate_left
    · intro w hSw
      obtain ⟨s1, s2, s3⟩ := hSw
      go_simp
      try (with_reducible rfl)
    refine wpAnyH_take (i := 98) (v := ?_) rfl (by as_aux_lemma => kernel_rfl) (by as_aux_lemma => kernel_rfl) (by as_aux_lemma => kernel_rfl) (fun _ _ _ h => h) (Or.inl ⟨by as_aux_lemma => kernel_rfl, ?_⟩) hHeld ?_
    rotate_left
    · intro w hSw
      obtain ⟨s1, s2, s3⟩ := hSw
      go_simp
      try (with_reducible rfl)
    refine wpAnyH_take (i := 99) (v := ?_) rfl (by as_aux_lemma => kernel_rfl) (by as_aux_lemma => kernel_rfl) (by as_aux_lemma => kernel_rfl) (fun _ _ _ h => h) (Or.inl ⟨by as_aux_lemma => kernel_rfl, ?_⟩) hHeld ?_
    rotate_left
    · intro w hSw
      obtain ⟨s1, s2, s3⟩ := hSw
      go_simp
      try (with_reducible rfl)
    refine wpAnyH_take (i := 100) (v := ?_) rfl (by as_aux_lemma => kernel_rfl) (by as_aux_lemma => kernel_rfl) (by as_aux_lemma => kernel_rfl) (fun _ _ _ h => h) (Or.inl ⟨by as_aux_lemma => kernel_rfl, ?_⟩) hHeld ?_
    rotate_left
    · intro w hSw
      obtain ⟨s1, s2, s3⟩ := hSw
      go_simp
      try (with_reducible rfl)
    refine wpAnyH_ready (rs := [101]) (by as_aux_lemma => kernel_rfl) (by simp) ?_
    refine AllReadyH.cons rfl (fun K hK => ?_) AllReadyH.nil
    go_simp
    go_at_call 12
    refine (vbegun _ K29.out.gl).mono ?_
    rintro e wq30 ⟨rfl, hb⟩
    have K30 := Lib.hid (K29.out.below hb)
    have HS := hs3 K30.out
    clear hb K29
    go_simp
    refine hK.out _ _ HS (fun hHeld => ?_)
    clear hK K
    clear HS
    refine wpAnyH_take (i := 102) (v := ?_) rfl (by as_aux_lemma => kernel_rfl) (by as_aux_lemma => kernel_rfl) (by as_aux_lemma => kernel_rfl) (fun _ _ _ h => h) (Or.inl ⟨by as_aux_lemma => kernel_rfl, ?_⟩) hHeld ?_
    rotate_left
    · intro w hSw
      obtain ⟨s1, s2, s3⟩ := hSw
      go_simp
      try (with_reducible rfl)
    refine wpAnyH_take (i := 103) (v := ?_) rfl (by as_aux_lemma => kernel_rfl) (by as_aux_lemma => kernel_rfl) (by as_aux_lemma => kernel_rfl) (fun _ _ _ h => h) (Or.inl ⟨by as_aux_lemma => kernel_rfl, ?_⟩) hHeld ?_
    rotate_left
    · intro w hSw
      obtain ⟨s1, s2, s3⟩ := hSw
      go_simp
      try (with_reducible rfl)
    refine wpAnyH_done (by as_aux_lemma => kernel_rfl) ?_ _
    go_wp2_with fail
    go_ret
    exact ⟨rfl, K30.out.low⟩
end Go.Proofs.YtpldopoeopjcoaaGreatDoor

/- Texts of one proof, laid together. -/
import Derived.Test.YtpldopoeopjcoaaGreatDoorK20
import Derived.Deep.RegionLaw
/- Expr of package kauditmill: a leaf. -/
namespace Go.Proofs.YtpldopoeopjcoaaGreatDoor
open Go.RowKit
attribute [local irreducible] GoodM
set_option maxRecDepth 100000 in
set_option maxHeartbeats 16000000 in
theorem ca_expr0 (w : World) (base g d : Nat) (h : CaOk w base g) :
    Calls Tryz.prog 7 #[.pointer (some ⟨g, 0, none⟩), .int .i64 0] w (EPost w base g d) := by
  have hgw := ca_lt h
  have hbw : base ≤ w.heap.size := by have := h.1; omega
  have S0 := Lib.hid (h.alloc (.cells xZ 25))
  have R0 := Lib.hid (Blk.new w xZ 25)
  have O0 := Lib.hid (only_alloc (World.grownBy.refl w (some g)) (.cells xZ 25))
  clear h
  go_enter Tryz.func7, Tryz.ntmps7
  go_wp2_with fail
  refine (ca_int _ base g 8 S0.out (by omega) (by omega)).mono ?_
  rintro e wl ⟨k, rfl, hk0, hk8, hs, hg⟩
  have S := Lib.hid hs
  have O := Lib.hid (only_trans O0.out hg)
  have R := Lib.hid (Blk.grown R0.out hg (fun e => by injection e with e; omega))
  clear hs hg S0 O0 R0
  go_wp2_with fail
  refine (ca_name _ base g S.out).mono ?_
  rintro e wa ⟨nm, rfl, hnm, hs, hg⟩
  have S1 := Lib.hid hs
  have O1 := Lib.hid (only_trans O.out hg)
  have R1 := Lib.hid (Blk.grown R.out hg (fun e => by injection e with e; omega))
  have HNM := Lib.hid hnm
  clear hs hg hnm S O R
  go_wp2_with fail
  refine (ca_int _ base g 6 S1.out (by omega) (by omega)).mono ?_
  rintro e wb ⟨y, rfl, hy0, hy1, hs, hg⟩
  have S2 := Lib.hid (hs.alloc (.cells #[.int .i64 0, .int .i64 1, .int .i64 2, .int .i64 3, .int .i64 7, .int .i64 (-2), .int .i64 (-9223372036854775808), .int .i64 9223372036854775807] 3))
  have R2 := Lib.hid ((Blk.grown R1.out hg (fun e => by injection e with e; omega)).alloc (.cells #[.int .i64 0, .int .i64 1, .int .i64 2, .int .i64 3, .int .i64 7, .int .i64 (-2), .int .i64 (-9223372036854775808), .int .i64 9223372036854775807] 3))
  have O2 := Lib.hid (only_alloc (only_trans O1.out hg) (.cells #[.int .i64 0, .int .i64 1, .int .i64 2, .int .i64 3, .int .i64 7, .int .i64 (-2), .int .i64 (-9223372036854775808), .int .i64 9223372036854775807] 3))
  have P2 := Lib.hid (Blk.new wb #[.int .i64 0, .int .i64 1, .int .i64 2, .int .i64 3, .int .i64 7, .int .i64 (-2), .int .i64 (-9223372036854775808), .int .i64 9223372036854775807] 3)
  have hgb : g < wb.heap.size := ca_lt hs
  have hwb : w.heap.size < wb.heap.size := (Blk.grown R1.out hg (fun e => by injection e with e; omega)).lt
  clear hs hg S1 O1 R1
  go_wp2_with fail
  refine (ca_pick _ base g wb.heap.size 8 milI 3 S2.out P2.out (by omega) rfl (by omega) (by omega)).mono ?_
  rintro e wc ⟨num, rfl, hnum, hs, hg⟩
  have K := Lib.hid (show LS w (wc.alloc (.cells (xC ⟨4, 1 + y, 1, num, nm, ⟨#[]⟩, none, 0, 0⟩) 25)) base g wc.heap.size ⟨4, 1 + y, 1, num, nm, ⟨#[]⟩, none, 0, 0⟩ from
    ⟨(Blk.grown R2.out hg (fun e => by injection e with e; omega)).alloc _, Blk.new wc _ _, hs.alloc _, only_alloc (only_trans O2.out hg) _, by have := hg.size; simp at this; omega, hgw, hbw⟩)
  have HGD := Lib.hid (leaf_num (d := d) ⟨hy0, hy1⟩ hnum HNM.out)
  clear hs hg hnum S2 R2 O2 P2
  go_wp2_with fail
  generalize wc.alloc (.cells (xC ⟨4, 1 + y, 1, num, nm, ⟨#[]⟩, none, 0, 0⟩) 25) = wd at *
  generalize wc.heap.size = ge at *
  refine (ca_bool _ base g 2 K.out.src (by omega) (by omega)).mono ?_
  rintro e we ⟨b1, rfl, hs, hg⟩
  have K1 := Lib.hid (K.out.step hs hg)
  clear hs hg K
  go_upto_if 27 with (fail)
  go_cut [28] (fun _v wx => ∃ m : Xe, LS w wx base g ge m ∧ m.A = none ∧ m.n = 0 ∧ m.nm = nm ∧ m.tx.size ≤ 128 ∧ Hid (GoodM d (.mk m.op m.cm m.kd m.nu m.nm m.tx [])))
  case first =>
    cases b1
    · go_wp2_with fail
      go_meet
      exact ⟨_, K1.out, rfl, rfl, rfl, by show (0 : Nat) ≤ 128; omega, HGD⟩
    · have K2 := Lib.hid (K1.out.alloc (.cells #[.string ⟨#[97]⟩, .string ⟨#[110, 111]⟩, .string ⟨#[121, 101, 115]⟩, .string ⟨#[109, 107, 100, 105, 114]⟩, .string ⟨#[]⟩, .string ⟨#[97, 32, 98]⟩, .string ⟨#[83, 89, 83, 67, 65, 76, 76]⟩, .string ⟨#[107]⟩] 9))
      have P2 := Lib.hid (Blk.new we #[.string ⟨#[97]⟩, .string ⟨#[110, 111]⟩, .string ⟨#[121, 101, 115]⟩, .string ⟨#[109, 107, 100, 105, 114]⟩, .string ⟨#[]⟩, .string ⟨#[97, 32, 98]⟩, .string ⟨#[83, 89, 83, 67, 65, 76, 76]⟩, .string ⟨#[107]⟩] 9)
      have hge := ca_lt K1.out.src
      go_wp2_with fail
      refine (ca_word _ base g we.heap.size 8 milW 9 K2.out.src P2.out (by omega) rfl (by omega) (by omega)).mono ?_
      rintro e wf ⟨tx, rfl, htx, hs, hg⟩
      have K3 := Lib.hid ((K2.out.step hs hg).alloc (.cells #[.int .i64 1, .int .i64 2, .int .i64 7] 3))
      have P3 := Lib.hid (Blk.new wf #[.int .i64 1, .int .i64 2, .int .i64 7] 3)
      have hgf := ca_lt hs
      have HTX := Lib.hid htx
      clear hs hg htx K2 P2 K1
      go_wp2_with fail
      refine (ca_pick _ base g wf.heap.size 3 [1, 2, 7] 3 K3.out.src P3.out (by omega) rfl (by omega) (by omega)).mono ?_
      rintro e wh ⟨cm, rfl, hcm, hs, hg⟩
      have K4 := Lib.hid (K3.out.step hs hg)
      have HG4 := Lib.hid (leaf_text (d := d) hcm HTX.out HNM.out)
      have HT2 := Lib.hid (milW_ok tx HTX.out)
      clear hs hg hcm K3 P3 HGD
      have p2 := K4.out.xb.cell 2
      have f2 := K4.out.xb.free 2
      have k1 := K4.out.set 2 (.int .i64 2) (m' := ⟨4, 1 + y, 2, num, nm, ⟨#[]⟩, none, 0, 0⟩) rfl
      have p3 := k1.xb.cell 3
      have f3 := k1.xb.free 3
      have k2 := k1.set 3 (.int .i64 0) (m' := ⟨4, 1 + y, 2, 0, nm, ⟨#[]⟩, none, 0, 0⟩) rfl
      have p5 := k2.xb.cell 5
      have f5 := k2.xb.free 5
      have k3 := k2.set 5 (.string tx) (m' := ⟨4, 1 + y, 2, 0, nm, tx, none, 0, 0⟩) rfl
      have p1 := k3.xb.cell 1
      have f1 := k3.xb.free 1
      have K8 := Lib.hid (k3.set 1 (.int .i64 cm) (m' := ⟨4, cm, 2, 0, nm, tx, none, 0, 0⟩) rfl)
      clear k1 k2 k3 K4
      go_wp2_with fail
      go_meet
      exact ⟨_, K8.out, rfl, rfl, rfl, HT2.out, HG4⟩
  case rest =>
  obtain ⟨m, hK, hmA, hmn, hmm, hmt, hGD⟩ := hcut
  have K := Lib.hid hK
  have HA := Lib.hid hmA
  have HN0 := Lib.hid hmn
  have HMM := Lib.hid hmm
  have HMT := Lib.hid hmt
  clear hK K1 HGD hmA hmn hmm hmt
  go_wp2_with fail
  refine (ca_bool _ base g 5 K.out.src (by omega) (by omega)).mono ?_
  rintro e wi ⟨b2, rfl, hs, hg⟩
  have K1 := Lib.hid (K.out.step hs hg)
  clear hs hg K
  cases b2
  case false =>
    go_wp2_with (first | ((with_reducible refine load_blk ?_ 25 (.tmp 6) ?_ K1.out.xb ?_ _ Tryz.underlying25 ?_ ?_ ?_); (iterate 4 rfl); exact x_sz _) | ((with_reducible refine store_blk ?_ 25 (.tmp 4) (.tmp 43) ?_ K1.out.res (xC m) ?_ ?_ ?_ ?_ ?_ ?_); (iterate 4 rfl); (exact x_sz _); rfl; (exact x_one _)))
    refine bodyPost_ret (x_ret (fn := Tryz.f7) rfl _ _ w.heap.size m rfl (Blk.row K1.out.res _)) rfl ?_
    exact K1.out.fin HA.out HN0.out ⟨by have h := (milN_ok nm HNM.out).2; rw [← HMM.out] at h; exact Nat.le_trans h (by decide), Nat.le_trans HMT.out (by decide)⟩ hGD.out
  case true =>
    go_wp2_with fail
    refine (ca_name _ base g K1.out.src).mono ?_
    rintro e wj ⟨nm2, rfl, hnm2, hs, hg⟩
    have K2 := Lib.hid (K1.out.step hs hg)
    have K3 := Lib.hid (K2.out.row ⟨5, 0, 0, 0, nm2, ⟨#[]⟩, none, 0, 0⟩)
    have HG2 := Lib.hid (leaf_has (d := d) hnm2)
    have HN2 := Lib.hid (milN_ok nm2 hnm2).2
    clear hs hg hnm2 K1
    go_wp2_with (first | ((with_reducible refine store_blk ?_ 25 (.tmp 6) (.tmp 42) ?_ K2.out.xb (xC ⟨5, 0, 0, 0, nm2, ⟨#[]⟩, none, 0, 0⟩) ?_ ?_ ?_ ?_ ?_ ?_); (iterate 4 rfl); (exact x_sz _); rfl; (exact x_one _)) | ((with_reducible refine load_blk ?_ 25 (.tmp 6) ?_ K3.out.xb ?_ _ Tryz.underlying25 ?_ ?_ ?_); (iterate 4 rfl); exact x_sz _) | ((with_reducible refine store_blk ?_ 25 (.tmp 4) (.tmp 43) ?_ K3.out.res (xC ⟨5, 0, 0, 0, nm2, ⟨#[]⟩, none, 0, 0⟩) ?_ ?_ ?_ ?_ ?_ ?_); (iterate 4 rfl); (exact x_sz _); rfl; (exact x_one _)))
    refine bodyPost_ret (x_ret (fn := Tryz.f7) rfl _ _ w.heap.size ⟨5, 0, 0, 0, nm2, ⟨#[]⟩, none, 0, 0⟩ rfl (Blk.row K3.out.res _)) rfl ?_
    exact K3.out.fin rfl rfl ⟨Nat.le_trans HN2.out (by decide), by show 0 ≤ maxLen; omega⟩ HG2.out
end Go.Proofs.YtpldopoeopjcoaaGreatDoor
/- What the making of an expression of others keeps. -/
namespace Go.Proofs.YtpldopoeopjcoaaGreatDoor
open Go.RowKit
abbrev xV (op : Int) (v : Value) : Array Value := #[.int .i64 op, .int .i64 0, .int .i64 0, .int .i64 0, .string ⟨#[]⟩, .string ⟨#[]⟩, v]
def Fe (ge : Nat) (wr : World) (v : Value) (i : Nat) : Prop := ge + 1 ≤ i ∧ i < wr.heap.size ∧ v.ownBlock ≠ some i
structure MS (w wr : World) (base g ge d : Nat) (op : Int) (v : Value) (L : List Ex) (ms : List Xe) : Prop where
  res : Blk wr w.heap.size 25 xZ
  xb : Blk wr ge 25 (xV op v)
  own : OwnE EX wr (ge + 1) v ms
  ln : ms.length = L.length
  ps : ∀ k (h1 : k < L.length) (h2 : k < ms.length), ExA wr (Fe ge wr v) (L[k]) (ms[k])
  good : ∀ y ∈ L, GoodM d y
  src : CaOk wr base g
  only : w.grownBy wr (some g)
  h2 : w.heap.size < ge
  h3 : g < w.heap.size
  h4 : base ≤ w.heap.size
section
variable {w wr w' w2 w4 : World} {base g ge d : Nat} {op : Int} {v v' : Value} {L : List Ex} {ms : List Xe} {x : Ex} {m : Xe}
theorem MS.step (h : MS w wr base g ge d op v L ms) (hs : CaOk w' base g) (hg : wr.grownBy w' (some g)) : MS w w' base g ge d op v L ms := by
  have h1 := h.h2
  have h2 := h.h3
  refine ⟨Blk.grown h.res hg (fun e => by injection e with e; omega), Blk.grown h.xb hg (fun e => by injection e with e; omega), h.own.far hg (fun k hk e => by injection e with e; have := h.own.ge k hk; omega), h.ln, fun k k1 k2 => (h.ps k k1 k2).keep (fun i hi => ?_) (fun i hi => ⟨hi.1, Nat.lt_of_lt_of_le hi.2.1 hg.size, hi.2.2⟩), h.good, hs, only_trans h.only hg, h.h2, h.h3, h.h4⟩
  exact hg.block i hi.2.1 (fun e => by injection e with e; have := hi.1; omega)
theorem MS.below (h : MS w wr base g ge d op v L ms) (hb : Below wr.heap.size wr w') : MS w w' base g ge d op v L ms :=
  h.step (h.src.below hb) ⟨hb.os, hb.tape, hb.output, hb.size, fun i hi _ => hb.block i hi⟩
theorem MS.alloc (h : MS w wr base g ge d op v L ms) (o : Obj) : MS w (wr.alloc o) base g ge d op v L ms := h.below ((Below.refl _ _).alloc (Nat.le_refl _) o)
theorem MS.drew (h : MS w wr base g ge d op v L ms) : MS w wr.drew base g ge d op v L ms := h.below (Below.refl _ _).drew
theorem MS.new (hr : Blk wr w.heap.size 25 xZ) (hs : CaOk wr base g) (ho : w.grownBy wr (some g)) (h3 : g < w.heap.size) (h4 : base ≤ w.heap.size) :
    MS w (wr.alloc (.cells (xV op (.slice none 0 0)) 25)) base g wr.heap.size d op (.slice none 0 0) [] [] :=
  ⟨hr.alloc _, Blk.new wr _ _, OwnE.nil _ _, rfl, fun k h => by simp at h, fun y hy => (by cases hy), hs.alloc _, only_alloc ho _, hr.lt, h3, h4⟩
theorem MS.app (h : MS w w2 base g ge d op v L ms) (hx : ExA w2 (Fe ge w2 v) x m) (hgx : GoodM d x) (ho : OwnE EX w4 (ge + 1) v' (ms ++ [m])) (hg : w2.grownBy w4 v.ownBlock) (hat : v'.ownBlock = v.ownBlock ∨ v'.ownBlock = some w2.heap.size) :
    Blk w4 ge 25 (xV op v) ∧ MS w (w4.setCell ⟨ge, 6, none⟩ v') base g ge d op v' (L ++ [x]) (ms ++ [m]) := by
  have h2 := h.h2
  have h3 := h.h3
  have h4 := h.h4
  have hr : ∀ k, v.ownBlock = some k → ge < k := fun k hk => by have := h.own.ge k hk; omega
  have hxb := Blk.grown h.xb hg (fun e => by have := hr _ e; omega)
  have hsz : (w4.setCell ⟨ge, 6, none⟩ v').heap.size = w4.heap.size := by simp [World.setCell]
  have hk : ∀ (y : Ex) (q : Xe), ExA w2 (Fe ge w2 v) y q → ExA (w4.setCell ⟨ge, 6, none⟩ v') (Fe ge (w4.setCell ⟨ge, 6, none⟩ v') v') y q := fun y q hy => hy.keep (fun i hi => (heap_setCell_other _ _ i _ (by show i ≠ ge; have := hi.1; omega)).trans (hg.block i hi.2.1 (fun e => hi.2.2 e.symm))) (fun i hi => ⟨hi.1, by rw [hsz]; exact Nat.lt_of_lt_of_le hi.2.1 hg.size, by
    rcases hat with e | e
    · rw [e]; exact hi.2.2
    · rw [e]; intro e2; injection e2 with e2; have := hi.2.1; omega⟩)
  refine ⟨hxb, Blk.put_other (Blk.grown h.res hg (fun e => by have := hr _ e; omega)) v' (by show w.heap.size ≠ ge; omega), Blk.put hxb 6 v', ho.farCell (fun e => by have := ho.ge _ e; omega) _, by simp [h.ln], fun k k1 k2 => ?_, fun y hy => ?_,
    (h.src.grown hg (fun k e => by have := hr k e; omega)).setCell (by show base ≤ ge; omega) (by show ge ≠ g; omega) _, only_setCell (only_far h.only hg (fun k e => by have := hr k e; omega)) (.inr (by show w.heap.size ≤ ge; omega)) _, h.h2, h.h3, h.h4⟩
  · by_cases hkl : k < L.length
    · have e1 : (L ++ [x])[k]'k1 = L[k] := List.getElem_append_left hkl
      have e2 : (ms ++ [m])[k]'k2 = ms[k]'(by rw [h.ln]; exact hkl) := List.getElem_append_left (by rw [h.ln]; exact hkl)
      rw [e1, e2]
      exact hk _ _ (h.ps k hkl (by rw [h.ln]; exact hkl))
    · have hke : k = L.length := by simp at k1; omega
      subst hke
      have e1 : (L ++ [x])[L.length]'k1 = x := by simp
      have e2 : (ms ++ [m])[L.length]'k2 = m := by simp [← h.ln]
      rw [e1, e2]
      exact hk _ _ hx
  · rcases List.mem_append.1 hy with hy | hy
    · exact h.good y hy
    · rw [List.mem_singleton.1 hy]; exact hgx
theorem MS.fin {A : Option Addr} {c n : Nat} (h : MS w wr base g ge d op (.slice A n c) L ms) (hn : n = ms.length) (ho : op = 1 ∨ op = 2) (hl2 : 2 ≤ L.length) (hl3 : L.length ≤ 3) :
    EPost w base g (d + 1) (.returned (.agg (xV op (.slice A n c)))) (wr.setRow w.heap.size (xV op (.slice A n c))) := by
  have h2 := h.h2
  have h3 := h.h3
  have h4 := h.h4
  subst hn
  have hln := h.ln
  obtain ⟨A1, c1, e1, hat⟩ := h.own.at
  injection e1 with e1 _ e2
  subst e1
  have hk : ∀ i, ge + 1 ≤ i → (wr.setRow w.heap.size (xV op (.slice A ms.length c))).heap[i]? = wr.heap[i]? := fun i hi => setRow_other _ _ _ _ (by omega)
  have hz : (wr.setRow w.heap.size (xV op (.slice A ms.length c))).heap.size = wr.heap.size := setRow_size _ _ _
  refine ⟨.mk op 0 0 0 ⟨#[]⟩ ⟨#[]⟩ L, ⟨op, 0, 0, 0, ⟨#[]⟩, ⟨#[]⟩, A, ms.length, c⟩, rfl, ?_, good_list ho hl2 hl3 h.good, ca_row h.src (by omega) (by omega) _, only_far h.only (row_only _ _ _) (fun k e => by injection e with e; omega)⟩
  generalize wr.setRow w.heap.size (xV op (.slice A ms.length c)) = W at hk hz ⊢
  have ha : AtS wr (fun i => ge + 1 ≤ i ∧ i < wr.heap.size) A ms := hat.toS (fun ad e hb => ⟨by
    subst e
    exact own_ge (n := 0) h.own (by omega), hb⟩)
  rw [hln]
  exact ExA.mk op 0 0 0 ⟨#[]⟩ ⟨#[]⟩ L A c ms hln (by omega) ⟨by show 0 ≤ maxLen; omega, by show 0 ≤ maxLen; omega⟩ (ha.keep (fun i hi => hk i hi.1) (fun i hi => ⟨by have := hi.1; omega, by rw [hz]; exact hi.2⟩)) (fun k k1 k2 => (h.ps k k1 k2).keep (fun i hi => hk i hi.1) (fun i hi => ⟨by have := hi.1; omega, by rw [hz]; exact hi.2.1⟩))
end
/-- not. -/
theorem not_postE {w w2 : World} {base g d : Nat} {x : Ex} {m : Xe} (hx : ExA w2 (fun i => w.heap.size < i ∧ i < w2.heap.size) x m) (hgx : GoodM d x) (hg : w.grownBy w2 (some g)) (hs : CaOk w2 base g) (hgl : g < w.heap.size) (hb : base ≤ w.heap.size) (hz : w.heap.size < w2.heap.size) :
    EPost w base g (d + 1) (.returned (.agg (xC ⟨3, 0, 0, 0, ⟨#[]⟩, ⟨#[]⟩, some ⟨w2.heap.size, 0, none⟩, 1, 1⟩))) ((w2.alloc (.cells (xC m) 25)).setRow w.heap.size (xC ⟨3, 0, 0, 0, ⟨#[]⟩, ⟨#[]⟩, some ⟨w2.heap.size, 0, none⟩, 1, 1⟩)) := by
  have ho := OwnE.made EX w2 (xC m) [m] rfl (base := w2.heap.size) (Nat.le_refl _) (by show 1 ≤ 1000; omega) (n := 1) rfl
  obtain ⟨A1, c1, e1, hat⟩ := ho.at
  injection e1 with e1 _ _
  subst e1
  have h3 : (w2.alloc (.cells (xC m) 25)).heap.size = w2.heap.size + 1 := by simp
  have h4 : ∀ i, i < w2.heap.size → (w2.alloc (.cells (xC m) 25)).heap[i]? = w2.heap[i]? := fun i hi => ((Below.refl w2.heap.size w2).alloc (Nat.le_refl _) _).block i hi
  refine ⟨_, _, rfl, ?_, good_not hgx, ca_row (hs.alloc _) (by omega) (by omega) _, only_far (only_alloc hg _) (row_only _ _ _) (fun k e => by injection e with e; omega)⟩
  generalize hcs : xC ⟨3, 0, 0, 0, ⟨#[]⟩, ⟨#[]⟩, some ⟨w2.heap.size, 0, none⟩, 1, 1⟩ = cs
  have hk : ∀ i, w.heap.size < i → ((w2.alloc (.cells (xC m) 25)).setRow w.heap.size cs).heap[i]? = (w2.alloc (.cells (xC m) 25)).heap[i]? := fun i hi => setRow_other _ _ _ _ (by omega)
  have hz2 : ((w2.alloc (.cells (xC m) 25)).setRow w.heap.size cs).heap.size = w2.heap.size + 1 := by rw [setRow_size]; exact h3
  generalize (w2.alloc (.cells (xC m) 25)).setRow w.heap.size cs = W at hk hz2 ⊢
  have ha : AtS (w2.alloc (.cells (xC m) 25)) (fun i => i = w2.heap.size) (some ⟨w2.heap.size, 0, none⟩) [m] := hat.toS (fun ad e hb => by injection e with e; subst e; rfl)
  have ha2 : AtS W (Frs w W) (some ⟨w2.heap.size, 0, none⟩) [m] := ha.keep (fun i hi => hk i (by omega)) (fun i hi => ⟨by omega, by omega⟩)
  refine ExA.mk 3 0 0 0 ⟨#[]⟩ ⟨#[]⟩ [x] (some ⟨w2.heap.size, 0, none⟩) 1 [m] rfl (by show 1 ≤ 1000000; omega) ⟨by show 0 ≤ maxLen; omega, by show 0 ≤ maxLen; omega⟩ ha2 (fun k h1 h2 => ?_)
  have : k = 0 := by simpa using h1
  subst this
  exact hx.keep (fun i hi => (hk i hi.1).trans (h4 i hi.2)) (fun i hi => ⟨by have := hi.1; omega, by have := hi.2; omega⟩)
end Go.Proofs.YtpldopoeopjcoaaGreatDoor
/- Expr of package kauditmill: any depth. -/
namespace Go.Proofs.YtpldopoeopjcoaaGreatDoor
open Go.RowKit
attribute [local irreducible] GoodM
theorem mod_op (k : Int) (h0 : 0 ≤ k) : 1 + k % 2 = 1 ∨ 1 + k % 2 = 2 := by
  omega
theorem list_v {w : World} {base n c : Nat} {A : Option Addr} {ms : List Xe} (h : OwnE EX w base (.slice A n c) ms) : n = ms.length := by
  obtain ⟨A1, c1, e1, _⟩ := h.at
  injection e1
set_option maxRecDepth 100000 in
set_option maxHeartbeats 16000000 in
theorem ca_exprS (w : World) (base g d : Nat) (dI : Int) (h0 : 1 ≤ dI) (h100 : dI ≤ 100) (h : CaOk w base g) (hR : ∀ w', CaOk w' base g → Calls Tryz.prog 7 #[.pointer (some ⟨g, 0, none⟩), .int .i64 (dI - 1)] w' (EPost w' base g d)) :
    Calls Tryz.prog 7 #[.pointer (some ⟨g, 0, none⟩), .int .i64 dI] w (EPost w base g (d + 1)) := by
  have hgw := ca_lt h
  have hbw : base ≤ w.heap.size := by have := h.1; omega
  have S0 := Lib.hid (h.alloc (.cells xZ 25))
  have R0 := Lib.hid (Blk.new w xZ 25)
  have O0 := Lib.hid (only_alloc (World.grownBy.refl w (some g)) (.cells xZ 25))
  clear h
  have HR := Lib.hid hR
  have g0 : ¬ dI ≤ 0 := by omega
  have w1' : IntKind.i64.wrap (dI - 1) = dI - 1 := IntWalk.i64_in _ (by omega)
  have w2' : wrap64 (dI - 1) = dI - 1 := IntWalk.wrap64_in _ (by omega)
  clear hR
  go_enter Tryz.func7, Tryz.ntmps7
  go_wp2_with fail
  refine (ca_int _ base g 8 S0.out (by omega) (by omega)).mono ?_
  rintro e wl ⟨k, rfl, hk0, hk8, hs, hg⟩
  have S := Lib.hid hs
  have O := Lib.hid (only_trans O0.out hg)
  have R := Lib.hid (Blk.grown R0.out hg (fun e => by injection e with e; omega))
  clear hs hg S0 O0 R0
  by_cases h4 : 4 < k
  · go_wp2_with fail
    refine (ca_name _ base g S.out).mono ?_
    rintro e wa ⟨nm, rfl, hnm, hs, hg⟩
    have S1 := Lib.hid hs
    have O1 := Lib.hid (only_trans O.out hg)
    have R1 := Lib.hid (Blk.grown R.out hg (fun e => by injection e with e; omega))
    have HNM := Lib.hid hnm
    clear hs hg hnm S O R
    go_wp2_with fail
    refine (ca_int _ base g 6 S1.out (by omega) (by omega)).mono ?_
    rintro e wb ⟨y, rfl, hy0, hy1, hs, hg⟩
    have S2 := Lib.hid (hs.alloc (.cells #[.int .i64 0, .int .i64 1, .int .i64 2, .int .i64 3, .int .i64 7, .int .i64 (-2), .int .i64 (-9223372036854775808), .int .i64 9223372036854775807] 3))
    have R2 := Lib.hid ((Blk.grown R1.out hg (fun e => by injection e with e; omega)).alloc (.cells #[.int .i64 0, .int .i64 1, .int .i64 2, .int .i64 3, .int .i64 7, .int .i64 (-2), .int .i64 (-9223372036854775808), .int .i64 9223372036854775807] 3))
    have O2 := Lib.hid (only_alloc (only_trans O1.out hg) (.cells #[.int .i64 0, .int .i64 1, .int .i64 2, .int .i64 3, .int .i64 7, .int .i64 (-2), .int .i64 (-9223372036854775808), .int .i64 9223372036854775807] 3))
    have P2 := Lib.hid (Blk.new wb #[.int .i64 0, .int .i64 1, .int .i64 2, .int .i64 3, .int .i64 7, .int .i64 (-2), .int .i64 (-9223372036854775808), .int .i64 9223372036854775807] 3)
    have hgb : g < wb.heap.size := ca_lt hs
    have hwb : w.heap.size < wb.heap.size := (Blk.grown R1.out hg (fun e => by injection e with e; omega)).lt
    clear hs hg S1 O1 R1
    go_wp2_with fail
    refine (ca_pick _ base g wb.heap.size 8 milI 3 S2.out P2.out (by omega) rfl (by omega) (by omega)).mono ?_
    rintro e wc ⟨num, rfl, hnum, hs, hg⟩
    have K := Lib.hid (show LS w (wc.alloc (.cells (xC ⟨4, 1 + y, 1, num, nm, ⟨#[]⟩, none, 0, 0⟩) 25)) base g wc.heap.size ⟨4, 1 + y, 1, num, nm, ⟨#[]⟩, none, 0, 0⟩ from
      ⟨(Blk.grown R2.out hg (fun e => by injection e with e; omega)).alloc _, Blk.new wc _ _, hs.alloc _, only_alloc (only_trans O2.out hg) _, by have := hg.size; simp at this; omega, hgw, hbw⟩)
    have HGD := Lib.hid (leaf_num (d := d + 1) ⟨hy0, hy1⟩ hnum HNM.out)
    clear hs hg hnum S2 R2 O2 P2
    go_wp2_with fail
    generalize wc.alloc (.cells (xC ⟨4, 1 + y, 1, num, nm, ⟨#[]⟩, none, 0, 0⟩) 25) = wd at *
    generalize wc.heap.size = ge at *
    refine (ca_bool _ base g 2 K.out.src (by omega) (by omega)).mono ?_
    rintro e we ⟨b1, rfl, hs, hg⟩
    have K1 := Lib.hid (K.out.step hs hg)
    clear hs hg K
    go_upto_if 27 with (fail)
    go_cut [28] (fun _v wx => ∃ m : Xe, LS w wx base g ge m ∧ m.A = none ∧ m.n = 0 ∧ m.nm = nm ∧ m.tx.size ≤ 128 ∧ Hid (GoodM (d + 1) (.mk m.op m.cm m.kd m.nu m.nm m.tx [])))
    case first =>
      cases b1
      · go_wp2_with fail
        go_meet
        exact ⟨_, K1.out, rfl, rfl, rfl, by show (0 : Nat) ≤ 128; omega, HGD⟩
      · have K2 := Lib.hid (K1.out.alloc (.cells #[.string ⟨#[97]⟩, .string ⟨#[110, 111]⟩, .string ⟨#[121, 101, 115]⟩, .string ⟨#[109, 107, 100, 105, 114]⟩, .string ⟨#[]⟩, .string ⟨#[97, 32, 98]⟩, .string ⟨#[83, 89, 83, 67, 65, 76, 76]⟩, .string ⟨#[107]⟩] 9))
        have P2 := Lib.hid (Blk.new we #[.string ⟨#[97]⟩, .string ⟨#[110, 111]⟩, .string ⟨#[121, 101, 115]⟩, .string ⟨#[109, 107, 100, 105, 114]⟩, .string ⟨#[]⟩, .string ⟨#[97, 32, 98]⟩, .string ⟨#[83, 89, 83, 67, 65, 76, 76]⟩, .string ⟨#[107]⟩] 9)
        have hge := ca_lt K1.out.src
        go_wp2_with fail
        refine (ca_word _ base g we.heap.size 8 milW 9 K2.out.src P2.out (by omega) rfl (by omega) (by omega)).mono ?_
        rintro e wf ⟨tx, rfl, htx, hs, hg⟩
        have K3 := Lib.hid ((K2.out.step hs hg).alloc (.cells #[.int .i64 1, .int .i64 2, .int .i64 7] 3))
        have P3 := Lib.hid (Blk.new wf #[.int .i64 1, .int .i64 2, .int .i64 7] 3)
        have hgf := ca_lt hs
        have HTX := Lib.hid htx
        clear hs hg htx K2 P2 K1
        go_wp2_with fail
        refine (ca_pick _ base g wf.heap.size 3 [1, 2, 7] 3 K3.out.src P3.out (by omega) rfl (by omega) (by omega)).mono ?_
        rintro e wh ⟨cm, rfl, hcm, hs, hg⟩
        have K4 := Lib.hid (K3.out.step hs hg)
        have HG4 := Lib.hid (leaf_text (d := d + 1) hcm HTX.out HNM.out)
        have HT2 := Lib.hid (milW_ok tx HTX.out)
        clear hs hg hcm K3 P3 HGD
        have p2 := K4.out.xb.cell 2
        have f2 := K4.out.xb.free 2
        have k1 := K4.out.set 2 (.int .i64 2) (m' := ⟨4, 1 + y, 2, num, nm, ⟨#[]⟩, none, 0, 0⟩) rfl
        have p3 := k1.xb.cell 3
        have f3 := k1.xb.free 3
        have k2 := k1.set 3 (.int .i64 0) (m' := ⟨4, 1 + y, 2, 0, nm, ⟨#[]⟩, none, 0, 0⟩) rfl
        have p5 := k2.xb.cell 5
        have f5 := k2.xb.free 5
        have k3 := k2.set 5 (.string tx) (m' := ⟨4, 1 + y, 2, 0, nm, tx, none, 0, 0⟩) rfl
        have p1 := k3.xb.cell 1
        have f1 := k3.xb.free 1
        have K8 := Lib.hid (k3.set 1 (.int .i64 cm) (m' := ⟨4, cm, 2, 0, nm, tx, none, 0, 0⟩) rfl)
        clear k1 k2 k3 K4
        go_wp2_with fail
        go_meet
        exact ⟨_, K8.out, rfl, rfl, rfl, HT2.out, HG4⟩
    case rest =>
    obtain ⟨m, hK, hmA, hmn, hmm, hmt, hGD⟩ := hcut
    have K := Lib.hid hK
    have HA := Lib.hid hmA
    have HN0 := Lib.hid hmn
    have HMM := Lib.hid hmm
    have HMT := Lib.hid hmt
    clear hK K1 HGD hmA hmn hmm hmt
    go_wp2_with fail
    refine (ca_bool _ base g 5 K.out.src (by omega) (by omega)).mono ?_
    rintro e wi ⟨b2, rfl, hs, hg⟩
    have K1 := Lib.hid (K.out.step hs hg)
    clear hs hg K
    cases b2
    case false =>
      go_wp2_with (first | ((with_reducible refine load_blk ?_ 25 (.tmp 6) ?_ K1.out.xb ?_ _ Tryz.underlying25 ?_ ?_ ?_); (iterate 4 rfl); exact x_sz _) | ((with_reducible refine store_blk ?_ 25 (.tmp 4) (.tmp 43) ?_ K1.out.res (xC m) ?_ ?_ ?_ ?_ ?_ ?_); (iterate 4 rfl); (exact x_sz _); rfl; (exact x_one _)))
      refine bodyPost_ret (x_ret (fn := Tryz.f7) rfl _ _ w.heap.size m rfl (Blk.row K1.out.res _)) rfl ?_
      exact K1.out.fin HA.out HN0.out ⟨by have h := (milN_ok nm HNM.out).2; rw [← HMM.out] at h; exact Nat.le_trans h (by decide), Nat.le_trans HMT.out (by decide)⟩ hGD.out
    case true =>
      go_wp2_with fail
      refine (ca_name _ base g K1.out.src).mono ?_
      rintro e wj ⟨nm2, rfl, hnm2, hs, hg⟩
      have K2 := Lib.hid (K1.out.step hs hg)
      have K3 := Lib.hid (K2.out.row ⟨5, 0, 0, 0, nm2, ⟨#[]⟩, none, 0, 0⟩)
      have HG2 := Lib.hid (leaf_has (d := d + 1) hnm2)
      have HN2 := Lib.hid (milN_ok nm2 hnm2).2
      clear hs hg hnm2 K1
      go_wp2_with (first | ((with_reducible refine store_blk ?_ 25 (.tmp 6) (.tmp 42) ?_ K2.out.xb (xC ⟨5, 0, 0, 0, nm2, ⟨#[]⟩, none, 0, 0⟩) ?_ ?_ ?_ ?_ ?_ ?_); (iterate 4 rfl); (exact x_sz _); rfl; (exact x_one _)) | ((with_reducible refine load_blk ?_ 25 (.tmp 6) ?_ K3.out.xb ?_ _ Tryz.underlying25 ?_ ?_ ?_); (iterate 4 rfl); exact x_sz _) | ((with_reducible refine store_blk ?_ 25 (.tmp 4) (.tmp 43) ?_ K3.out.res (xC ⟨5, 0, 0, 0, nm2, ⟨#[]⟩, none, 0, 0⟩) ?_ ?_ ?_ ?_ ?_ ?_); (iterate 4 rfl); (exact x_sz _); rfl; (exact x_one _)))
      refine bodyPost_ret (x_ret (fn := Tryz.f7) rfl _ _ w.heap.size ⟨5, 0, 0, 0, nm2, ⟨#[]⟩, none, 0, 0⟩ rfl (Blk.row K3.out.res _)) rfl ?_
      exact K3.out.fin rfl rfl ⟨Nat.le_trans HN2.out (by decide), by show 0 ≤ maxLen; omega⟩ HG2.out
  by_cases h44 : k = 4
  · subst h44
    go_wp2_with fail
    refine (HR.out _ S.out).mono ?_
    rintro e w2 ⟨x, m, rfl, hx, hgx, hs, hg⟩
    have hzz := R.out.lt
    have P := Lib.hid (not_postE (w := w) (hx.keep (fun _ _ => rfl) (fun i hi => ⟨by have := hi.1; omega, hi.2⟩)) hgx (only_trans O.out hg) hs hgw hbw (by have := hg.size; omega))
    have RB := Lib.hid ((Blk.grown R.out hg (fun e => by injection e with e; omega)).alloc (.cells (xC m) 25))
    clear hx hgx hs hg S O R HR
    go_wp2_with ((with_reducible refine store_blk ?_ 25 (.tmp 4) (.tmp 51) ?_ RB.out (xC ⟨3, 0, 0, 0, ⟨#[]⟩, ⟨#[]⟩, some ⟨w2.heap.size, 0, none⟩, 1, 1⟩) ?_ ?_ ?_ ?_ ?_ ?_); (iterate 4 rfl); (exact x_sz _); rfl; (exact x_one _))
    refine bodyPost_ret (x_ret (fn := Tryz.f7) rfl _ _ w.heap.size ⟨3, 0, 0, 0, ⟨#[]⟩, ⟨#[]⟩, some ⟨w2.heap.size, 0, none⟩, 1, 1⟩ rfl (Blk.row RB.out _)) rfl ?_
    exact P.out
  have b4 : (k == 4) = false := by rw [beq_eq_false_iff_ne]; exact h44
  have HOP := Lib.hid (mod_op k hk0)
  have M0 := Lib.hid (MS.new (d := d) (op := 1 + k % 2) R.out S.out O.out hgw hbw)
  have hge : g < wl.heap.size := ca_lt S.out
  clear h44 S O R
  go_wp2_with fail
  generalize 1 + k % 2 = op at *
  generalize wl.alloc (.cells (xV op (.slice none 0 0)) 25) = w3 at *
  generalize wl.heap.size = ge at *
  refine (ca_int _ base g 2 M0.out.src (by omega) (by omega)).mono ?_
  rintro e w4 ⟨y, rfl, hy0, hy2, hs, hg⟩
  have M1 := Lib.hid (M0.out.step hs hg)
  obtain ⟨n2, hn2⟩ : ∃ n2 : Nat, (n2 : Int) = 2 + y := ⟨(2 + y).toNat, by omega⟩
  have HN2 := Lib.hid (show 2 ≤ n2 ∧ n2 ≤ 3 by omega)
  have HNY := Lib.hid hn2
  clear hs hg M0 hn2
  go_wp2_with fail
  go_loopw [8] (fun v8 wr => ∃ (j : Nat) (v : Value) (L : List Ex) (ms : List Xe), v8 = .int .i64 (j : Int) ∧ j ≤ n2 ∧ Hid (L.length + j = n2) ∧ MS w wr base g ge d op v L ms) (fun v8 _ => (intOf v8).toNat)
  case atStart => exact ⟨n2, .slice none 0 0, [], [], by rw [HNY.out], Nat.le_refl _, Lib.hid (by simp), M1.out⟩
  case round =>
    obtain ⟨j, v, L, ms, rfl, hjn, hlj, hM⟩ := hrel
    have M := Lib.hid hM
    clear hM M1
    obtain ⟨A, c, rfl, _⟩ := M.out.own.at
    have HLN := Lib.hid M.out.ln
    by_cases hj : 0 < j
    · have hj1 : (0 : Int) < (j : Int) := by omega
      have hst := M.out
      have q6 := hst.xb.cell 6
      have hgl := hst.xb.lt
      have hlx : ms.length ≤ 3 := by have := HLN.out; have := hlj.out; have := HN2.out; omega
      generalize hnm : ms.length = nm at *
      go_wp2_with fail
      clear hy0 hy2
      go_region_law
        (first
          | (go_simp; go_at_call 7; refine (HR.out _ hst.drew.src).mono ?_; rintro e w13 ⟨x, m, rfl, hx, hgx, hs3, hg3⟩; have st3 := hst.drew.step hs3 hg3; have qA := st3.xb.cell 6; have qC := (st3.alloc (.cells (xC m) 25)).xb.cell 6; go_simp)
          | (refine step_append_el EX (by rfl) (.tmp 64) (.tmp 69) (by rfl) (ge + 1) (.slice A nm c) ms (by rfl) (by exact (st3.alloc _).own) (w13.heap.size + 1) (some ⟨w13.heap.size, 0, none⟩) 1 1 [m] (by rfl) (by rfl) (by exact row_newE EX w13 (xC m) 25 m rfl (by omega)) (by rw [List.length_singleton]; omega) (by have h9 := (st3.alloc (.cells (xC m) 25)).xb.lt; exact h9) ?_; intro v4 w5 own4 hg4 hat4; obtain ⟨g4, c4, hv4⟩ := Joins.ownsRow_form own4 (by simp); subst hv4; obtain ⟨cb4, st4⟩ := (st3.alloc (.cells (xC m) 25)).app (hx.keep (fun i hi => ((Below.refl w13.heap.size w13).alloc (Nat.le_refl _) _).block i hi.2) (fun i hi => ⟨Nat.le_trans hst.xb.lt hi.1, Nat.lt_of_lt_of_le hi.2 ((Below.refl w13.heap.size w13).alloc (Nat.le_refl _) (.cells (xC m) 25)).size, fun e => Nat.lt_irrefl _ (Nat.lt_of_lt_of_le (hst.own.lt i e) hi.1)⟩)) hgx own4 hg4 hat4; have qB := cb4.cell 6; have fB := cb4.free 6))
      all_goals
        have HJ := Lib.hid (show (L ++ [x]).length + (j - 1) = n2 by have := hlj.out; simp; omega)
        have e4 : (ms ++ [m]).length = nm + 1 := by rw [List.length_append, hnm]; rfl
        rw [e4] at st4
        have ST4 := Lib.hid st4
        have hj3 : (j : Int) ≤ 3 := by have := HN2.out; omega
        clear st4 own4 hg4 hat4 cb4 qB fB qA qC st3 hx hgx hs3 hg3 hst q6 e4
        go_wp2_with fail
        go_roundw
        case rel => exact ⟨j - 1, _, L ++ [x], ms ++ [m], by congr 1; omega, by omega, HJ, ST4.out⟩
        case measure => simp [intOf]; omega
    · have hj1 : ¬ (0 : Int) < (j : Int) := by omega
      have HL := Lib.hid (show 2 ≤ L.length ∧ L.length ≤ 3 by have := hlj.out; have := HN2.out; omega)
      go_wp2_with (first | ((with_reducible refine load_blk ?_ 25 (.tmp 7) ?_ M.out.xb ?_ _ Tryz.underlying25 ?_ ?_ ?_); (iterate 4 rfl); exact x_sz zX) | ((with_reducible refine store_blk ?_ 25 (.tmp 4) (.tmp 72) ?_ M.out.res (xC ⟨op, 0, 0, 0, ⟨#[]⟩, ⟨#[]⟩, A, ms.length, c⟩) ?_ ?_ ?_ ?_ ?_ ?_); (iterate 4 rfl); (exact x_sz zX); rfl; (exact x_one _)))
      refine bodyPost_ret (x_ret (fn := Tryz.f7) rfl _ _ w.heap.size ⟨op, 0, 0, 0, ⟨#[]⟩, ⟨#[]⟩, A, ms.length, c⟩ rfl (Blk.row M.out.res _)) rfl ?_
      exact M.out.fin rfl HOP.out HL.out.1 HL.out.2
theorem ca_expr (base g : Nat) : ∀ (d : Nat) (w : World), d ≤ 99 → CaOk w base g → Calls Tryz.prog 7 #[.pointer (some ⟨g, 0, none⟩), .int .i64 (d : Int)] w (EPost w base g d)
  | 0, w, _, h => ca_expr0 w base g 0 h
  | d + 1, w, hd, h => by
    refine ca_exprS w base g d (d + 1 : Nat) (by omega) (by omega) h (fun w' h' => ?_)
    have e : (((d + 1 : Nat) : Int) - 1) = (d : Int) := by omega
    rw [e]
    exact ca_expr base g d w' (by omega) h'
end Go.Proofs.YtpldopoeopjcoaaGreatDoor

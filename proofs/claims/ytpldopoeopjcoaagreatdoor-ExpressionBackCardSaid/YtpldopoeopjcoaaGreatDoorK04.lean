/- Texts of one proof, laid together. -/
import Derived.Test.YtpldopoeopjcoaaGreatDoorK03
import Derived.Deep.RegionHeld
import Derived.Test.YtpldopoeopjcoaaGreatDoorK02
import Derived.Test.YtpldopoeopjcoaaGreatDoorK01
/- Events that package kauditmill makes. -/
namespace Go.Proofs.YtpldopoeopjcoaaGreatDoor
open Go.RowKit
/-- What the making of an event keeps. -/
structure Me (w wr : World) (base g ge : Nat) (b n t : Int) (v : Value) (c : Bool) (X : List Rm) : Prop where
  only : w.grownBy wr (some g)
  src : CaOk wr base g
  rb : Blk wr w.heap.size 39 (evC 0 0 0 (.slice none 0 0) false)
  eb : Blk wr ge 39 (evC b n t v c)
  own : OwnE ER wr (ge + 1) v X
  ps : ∀ x ∈ X, OwnE EP wr (ge + 1) x.sl x.r.ps ∧ (∀ k, x.sl.ownBlock = some k → v.ownBlock ≠ some k) ∧ x.r.ps.length ≤ 11 ∧ nmsOk x.r.ps = true
  h2 : w.heap.size < ge
  h3 : g < w.heap.size
  h4 : base ≤ w.heap.size
section
variable {w wr w' w2 : World} {base g ge : Nat} {b n t : Int} {v v' : Value} {c c' : Bool} {X : List Rm} {x : Rm}
theorem Me.below (h : Me w wr base g ge b n t v c X) (hb : Below wr.heap.size wr w') : Me w w' base g ge b n t v c X :=
  ⟨h.only.trans ⟨hb.os, hb.tape, hb.output, hb.size, fun i hi _ => hb.block i hi⟩, h.src.below hb, Blk.below h.rb hb, Blk.below h.eb hb, h.own.below hb, fun x hx => ⟨(h.ps x hx).1.below hb, (h.ps x hx).2⟩, h.h2, h.h3, h.h4⟩
theorem Me.alloc (h : Me w wr base g ge b n t v c X) (o : Obj) : Me w (wr.alloc o) base g ge b n t v c X := h.below ((Below.refl _ _).alloc (Nat.le_refl _) o)
theorem Me.drew (h : Me w wr base g ge b n t v c X) : Me w wr.drew base g ge b n t v c X := h.below (Below.refl _ _).drew
theorem Me.step (h : Me w wr base g ge b n t v c X) (hs : CaOk w' base g) (hg : wr.grownBy w' (some g)) : Me w w' base g ge b n t v c X :=
  ⟨h.only.trans hg, hs, Blk.grown h.rb hg (fun e => by injection e with e; have := h.h3; omega), Blk.grown h.eb hg (fun e => by injection e with e; have := h.h2; have := h.h3; omega), h.own.far hg (fun k hk e => by injection e with e; have := h.own.ge k hk; have := h.h2; have := h.h3; omega), fun x hx => ⟨(h.ps x hx).1.far hg (fun k hk e => by injection e with e; have := (h.ps x hx).1.ge k hk; have := h.h2; have := h.h3; omega), (h.ps x hx).2⟩, h.h2, h.h3, h.h4⟩
/-- A list of one new record is laid in the event's field. -/
theorem Me.set1 (h : Me w wr base g ge b n t v c X) (hp : OwnE EP wr (ge + 1) x.sl x.r.ps) (hl : x.r.ps.length ≤ 11) (hk : nmsOk x.r.ps = true) :
    Me w ((wr.setCell ⟨ge, 3, none⟩ (.slice (some ⟨wr.heap.size, 0, none⟩) 1 1)).alloc (.cells (rcC x.r x.sl) 63)) base g ge b n t (.slice (some ⟨wr.heap.size, 0, none⟩) 1 1) c [x] := by
  have h2 := h.h2
  have h3 := h.h3
  have h4 := h.h4
  have hlt := h.eb.lt
  have hse : (wr.setCell ⟨ge, 3, none⟩ (.slice (some ⟨wr.heap.size, 0, none⟩) 1 1)).heap.size = wr.heap.size := by simp [World.setCell]
  have o1 := OwnE.made ER (wr.setCell ⟨ge, 3, none⟩ (.slice (some ⟨wr.heap.size, 0, none⟩) 1 1)) (rcC x.r x.sl) [x] rfl (base := ge + 1) (by rw [hse]; omega) (by show 1 ≤ 1000; omega) (n := 1) rfl
  rw [hse] at o1
  have hpl : ∀ k, x.sl.ownBlock = some k → k < wr.heap.size := hp.lt
  refine ⟨only_alloc (only_setCell h.only (.inr (by show w.heap.size ≤ ge; omega)) _) _, (h.src.setCell (by show base ≤ ge; omega) (by show ge ≠ g; omega) _).alloc _, (Blk.put_other h.rb _ (by show w.heap.size ≠ ge; omega)).alloc _, (Blk.put h.eb 3 _).alloc _, o1, fun y hy => ?_, h2, h3, h4⟩
  rw [List.mem_singleton.1 hy]
  exact ⟨(hp.farCell (fun e => by have := hp.ge _ e; omega) _).alloc _, fun k hk e => by have := hpl k hk; have e2 : wr.heap.size = k := Option.some.inj e; omega, hl, hk⟩
/-- And the event's mark is set. -/
theorem Me.set2 (h : Me w wr base g ge b n t v c X) (hp : OwnE EP wr (ge + 1) x.sl x.r.ps) (hl : x.r.ps.length ≤ 11) (hk : nmsOk x.r.ps = true) (c' : Bool) :
    Me w (((wr.setCell ⟨ge, 3, none⟩ (.slice (some ⟨wr.heap.size, 0, none⟩) 1 1)).setCell ⟨ge, 4, none⟩ (.bool c')).alloc (.cells (rcC x.r x.sl) 63)) base g ge b n t (.slice (some ⟨wr.heap.size, 0, none⟩) 1 1) c' [x] := by
  have h2 := h.h2
  have h3 := h.h3
  have h4 := h.h4
  have hlt := h.eb.lt
  have hse : ((wr.setCell ⟨ge, 3, none⟩ (.slice (some ⟨wr.heap.size, 0, none⟩) 1 1)).setCell ⟨ge, 4, none⟩ (.bool c')).heap.size = wr.heap.size := by simp [World.setCell]
  have o1 := OwnE.made ER ((wr.setCell ⟨ge, 3, none⟩ (.slice (some ⟨wr.heap.size, 0, none⟩) 1 1)).setCell ⟨ge, 4, none⟩ (.bool c')) (rcC x.r x.sl) [x] rfl (base := ge + 1) (by rw [hse]; omega) (by show 1 ≤ 1000; omega) (n := 1) rfl
  rw [hse] at o1
  have hpl : ∀ k, x.sl.ownBlock = some k → k < wr.heap.size := hp.lt
  refine ⟨only_alloc (only_setCell (only_setCell h.only (.inr (by show w.heap.size ≤ ge; omega)) _) (.inr (by show w.heap.size ≤ ge; omega)) _) _, ((h.src.setCell (by show base ≤ ge; omega) (by show ge ≠ g; omega) _).setCell (by show base ≤ ge; omega) (by show ge ≠ g; omega) _).alloc _, (Blk.put_other (Blk.put_other h.rb _ (by show w.heap.size ≠ ge; omega)) _ (by show w.heap.size ≠ ge; omega)).alloc _, (Blk.put (Blk.put h.eb 3 _) 4 _).alloc _, o1, fun y hy => ?_, h2, h3, h4⟩
  rw [List.mem_singleton.1 hy]
  exact ⟨((hp.farCell (fun e => by have := hp.ge _ e; omega) _).farCell (fun e => by have := hp.ge _ e; omega) _).alloc _, fun k hk e => by have := hpl k hk; have e2 : wr.heap.size = k := Option.some.inj e; omega, hl, hk⟩
theorem Me.done (h : Me w wr base g ge b n t v c X) (c' : Bool) : Me w (wr.setCell ⟨ge, 4, none⟩ (.bool c')) base g ge b n t v c' X := by
  have h2 := h.h2
  have h3 := h.h3
  have h4 := h.h4
  exact ⟨only_setCell h.only (.inr (by show w.heap.size ≤ ge; omega)) _, h.src.setCell (by show base ≤ ge; omega) (by show ge ≠ g; omega) _, Blk.put_other h.rb _ (by show w.heap.size ≠ ge; omega), Blk.put h.eb 4 _, h.own.farCell (fun e => by have := h.own.ge _ e; omega) _, fun x hx => ⟨(h.ps x hx).1.farCell (fun e => by have := (h.ps x hx).1.ge _ e; omega) _, (h.ps x hx).2⟩, h2, h3, h4⟩
theorem Me.far1 (h : Me w wr base g ge b n t v c X) {gr : Nat} (hgr : ge < gr) (hv : v.ownBlock ≠ some gr) (hp : ∀ y ∈ X, y.sl.ownBlock ≠ some gr) (i : Nat) (u : Value) : Me w (wr.setCell ⟨gr, i, none⟩ u) base g ge b n t v c X := by
  have h2 := h.h2
  have h3 := h.h3
  have h4 := h.h4
  exact ⟨only_setCell h.only (.inr (by show w.heap.size ≤ gr; omega)) _, h.src.setCell (by show base ≤ gr; omega) (by show gr ≠ g; omega) _, Blk.put_other h.rb _ (by show w.heap.size ≠ gr; omega), Blk.put_other h.eb _ (by show ge ≠ gr; omega), h.own.farCell hv _, fun x hx => ⟨(h.ps x hx).1.farCell (hp x hx) _, (h.ps x hx).2⟩, h2, h3, h4⟩
theorem Me.app (h : Me w w2 base g ge b n t v c X) (hp : OwnE EP w2 (ge + 1) x.sl x.r.ps) (hf : ∀ k, x.sl.ownBlock = some k → v.ownBlock ≠ some k) (hl : x.r.ps.length ≤ 11) (hk : nmsOk x.r.ps = true) (ho : OwnE ER w' (ge + 1) v' (X ++ [x])) (hg : w2.grownBy w' v.ownBlock) (hat : v'.ownBlock = v.ownBlock ∨ v'.ownBlock = some w2.heap.size) :
    Blk w' ge 39 (evC b n t v c) ∧ Me w (w'.setCell ⟨ge, 3, none⟩ v') base g ge b n t v' c (X ++ [x]) := by
  have h2 := h.h2
  have h3 := h.h3
  have h4 := h.h4
  have hr : ∀ k, v.ownBlock = some k → ge < k := fun k hk => by have := h.own.ge k hk; omega
  have hps : ∀ z : Rm, OwnE EP w2 (ge + 1) z.sl z.r.ps → (∀ k, z.sl.ownBlock = some k → v.ownBlock ≠ some k) → OwnE EP (w'.setCell ⟨ge, 3, none⟩ v') (ge + 1) z.sl z.r.ps ∧ ∀ k, z.sl.ownBlock = some k → v'.ownBlock ≠ some k := fun z h1 h2 =>
    ⟨(h1.far hg h2).farCell (fun e => by have := h1.ge _ e; omega) _, fun k hk => by
      rcases hat with e | e
      · rw [e]; exact h2 k hk
      · rw [e]; intro e2; injection e2 with e2; have := h1.lt k hk; omega⟩
  have hb : Blk w' ge 39 (evC b n t v c) := Blk.grown h.eb hg (fun e => by have := hr _ e; omega)
  refine ⟨hb, only_setCell ⟨hg.os.trans h.only.os, hg.tape.trans h.only.tape, hg.output.trans h.only.output, Nat.le_trans h.only.size hg.size, fun i hi hne => (hg.block i (Nat.lt_of_lt_of_le hi h.only.size) (fun e => by have := hr _ e.symm; omega)).trans (h.only.block i hi hne)⟩ (.inr (by show w.heap.size ≤ ge; omega)) _,
    (h.src.grown hg (fun k e => by have := hr k e; omega)).setCell (by show base ≤ ge; omega) (by show ge ≠ g; omega) _, Blk.put_other (Blk.grown h.rb hg (fun e => by have := hr _ e; omega)) _ (by show w.heap.size ≠ ge; omega), Blk.put hb 3 v', ho.farCell (fun e => by have := ho.ge _ e; omega) _, fun z hz => ?_, h2, h3, h4⟩
  rcases List.mem_append.1 hz with hz | hz
  · exact ⟨(hps z (h.ps z hz).1 (h.ps z hz).2.1).1, (hps z (h.ps z hz).1 (h.ps z hz).2.1).2, (h.ps z hz).2.2⟩
  · rw [List.mem_singleton.1 hz]; exact ⟨(hps x hp hf).1, (hps x hp hf).2, hl, hk⟩
end
theorem ev_one (b n t : Int) (A : Option Addr) (k cp : Nat) (c : Bool) : (evC b n t (.slice A k cp) c).all (·.oneCell') = true := by simp [Value.oneCell']
def EvPost (w : World) (base g : Nat) (b n t : Int) (e : Ending) (w' : World) : Prop :=
  ∃ (A : Option Addr) (cp : Nat) (c : Bool) (X : List Rm), e = .returned (.agg (evC b n t (.slice A X.length cp) c)) ∧ OwnE ER w' (w.heap.size + 1) (.slice A X.length cp) X ∧ (∀ x ∈ X, OwnE EP w' (w.heap.size + 1) x.sl x.r.ps ∧ x.r.ps.length ≤ 11 ∧ nmsOk x.r.ps = true) ∧ X.length ≤ 3 ∧ CaOk w' base g ∧ w.grownBy w' (some g)
theorem me_end {w wr : World} {base g ge k cp : Nat} {b n t : Int} {A : Option Addr} {c : Bool} {X : List Rm} (h : Me w wr base g ge b n t (.slice A k cp) c X) (hk : k = X.length) (hl : X.length ≤ 3) :
    EvPost w base g b n t (.returned (.agg (evC b n t (.slice A k cp) c))) (wr.setRow w.heap.size (evC b n t (.slice A k cp) c)) := by
  subst hk
  have h2 := h.h2
  have h3 := h.h3
  have h4 := h.h4
  exact ⟨A, cp, c, X, rfl, (h.own.farRow (fun e => by have := h.own.ge _ e; omega) _).low (by omega), fun x hx => ⟨((h.ps x hx).1.farRow (fun e => by have := (h.ps x hx).1.ge _ e; omega) _).low (by omega), (h.ps x hx).2.2⟩, hl, (h.src.keep (setRow_other _ _ _ _ (by omega)) (fun i hi => setRow_other _ _ _ _ (by omega))), ⟨h.only.os, h.only.tape, h.only.output, by rw [setRow_size]; exact h.only.size, fun i hi hne => (setRow_other _ _ _ _ (by omega)).trans (h.only.block i hi hne)⟩⟩
set_option maxRecDepth 100000 in
set_option maxHeartbeats 16000000 in
theorem ca_event (w : World) (base g : Nat) (eb en et : Int) (h : CaOk w base g) (hn : 0 ≤ en ∧ en ≤ 100000) : Calls Tryz.prog 13 #[.pointer (some ⟨g, 0, none⟩), .int .i64 eb, .int .i64 en, .int .i64 et] w (EvPost w base g eb en et) := by
  have hlt := ca_lt h
  have hbase : base ≤ w.heap.size := by have := h.1; omega
  have HS0 := Lib.hid (h.alloc (.cells (evC 0 0 0 (.slice none 0 0) false) 39))
  have HO0 := Lib.hid (only_alloc (World.grownBy.refl w (some g)) (.cells (evC 0 0 0 (.slice none 0 0) false) 39))
  have HZ0 := Lib.hid (Blk.new w (evC 0 0 0 (.slice none 0 0) false) 39)
  clear h
  go_enter Tryz.func13, Tryz.ntmps13
  go_wp2_with fail
  refine (mevent eb en et _).mono ?_
  rintro e w1 ⟨rfl, hb⟩
  have hz1 := HZ0.out.below hb
  have hge := hz1.lt
  have K := Lib.hid (show Me w (w1.alloc (.cells (evC eb en et (.slice none 0 0) false) 39)) base g w1.heap.size eb en et (.slice none 0 0) false [] from ⟨only_alloc (only_below HO0.out hb) _, (HS0.out.below hb).alloc _, hz1.alloc _, Blk.new w1 _ _, OwnE.nil _ _, (fun x hx => by cases hx), hge, hlt, hbase⟩)
  clear hb hz1 hge HS0 HO0 HZ0
  go_wp2_with fail
  generalize w1.heap.size = ge at *
  refine (ca_bool _ base g 4 K.out.src (by omega) (by omega)).mono ?_
  rintro e wl ⟨b1, rfl, hs, hg⟩
  have K := Lib.hid (K.out.step hs hg)
  clear hs hg
  cases b1
  case true =>
    go_wp2_with fail
    refine (ca_single _ base g et en K.out.src hn).mono ?_
    rintro e wl ⟨x, rfl, hox, hs, hg, hxl, hxk⟩
    have hgl0 := K.out.eb.lt
    have kk := K.out.step hs hg
    have hgl := kk.eb.lt
    have k1 := Lib.hid (kk.set2 (x := x) (hox.low (by omega)) hxl hxk true)
    have c3 := (kk.alloc (.cells (rcC x.r x.sl) 63)).eb.cell 3
    have f3 := (kk.alloc (.cells (rcC x.r x.sl) 63)).eb.free 3
    have c4 := (kk.set1 (x := x) (hox.low (by omega)) hxl hxk).eb.cell 4
    have f4 := (kk.set1 (x := x) (hox.low (by omega)) hxl hxk).eb.free 4
    clear hox hs hg hxl hxk kk K
    obtain ⟨A, k, cp, ec, X, st, hn, hl⟩ : ∃ (A : Option Addr) (k cp : Nat) (ec : Bool) (X : List Rm), Me w (((wl.setCell ⟨ge, 3, none⟩ (.slice (some ⟨wl.heap.size, 0, none⟩) 1 1)).setCell ⟨ge, 4, none⟩ (.bool true)).alloc (.cells (rcC x.r x.sl) 63)) base g ge eb en et (.slice A k cp) ec X ∧ k = X.length ∧ X.length ≤ 3 := ⟨_, _, _, _, _, k1.out, rfl, by show 1 ≤ 3; omega⟩
    clear k1
    have STF := Lib.hid st
    have HNF := Lib.hid hn
    have HLF := Lib.hid hl
    clear st hn hl
    go_wp2_with (first | ((with_reducible refine load_blk ?_ 39 (.tmp 9) ?_ STF.out.eb ?_ _ Tryz.underlying39 ?_ ?_ ?_); (iterate 4 rfl); exact ev_sz _ _ _ _ _) | ((with_reducible refine store_blk ?_ 39 (.tmp 8) (.tmp 24) ?_ STF.out.rb (evC eb en et (.slice A k cp) ec) ?_ ?_ ?_ ?_ ?_ ?_); (iterate 4 rfl); (exact ev_sz _ _ _ _ _); rfl; (exact ev_one _ _ _ _ _ _ _)))
    refine bodyPost_ret (ev_ret (k := 8) (fn := Tryz.f13) rfl _ _ w.heap.size eb en et (.slice A k cp) ec rfl (Blk.row STF.out.rb _)) rfl ?_
    exact me_end STF.out HNF.out HLF.out
  case false =>
    go_wp2_with fail
    refine (ca_syscall _ base g et en K.out.src).mono ?_
    rintro e wl ⟨x, rfl, hox, hs, hg, hxl, hxk⟩
    have hgl0 := K.out.eb.lt
    have kk := K.out.step hs hg
    have hgl := kk.eb.lt
    have k1 := Lib.hid (kk.set1 (x := x) (hox.low (by omega)) hxl hxk)
    have c3 := (kk.alloc (.cells (rcC x.r x.sl) 63)).eb.cell 3
    have f3 := (kk.alloc (.cells (rcC x.r x.sl) 63)).eb.free 3
    clear hox hs hg hxl hxk kk K
    go_wp2_with fail
    clear c3 f3
    generalize (wl.setCell ⟨ge, 3, none⟩ (.slice (some ⟨wl.heap.size, 0, none⟩) 1 1)).alloc (.cells (rcC x.r x.sl) 63) = w4 at *
    generalize wl = wz at *
    refine (ca_bool _ base g 2 k1.out.src (by omega) (by omega)).mono ?_
    rintro e w5 ⟨b2, rfl, hs, hg⟩
    have K5 := Lib.hid (k1.out.step hs hg)
    clear hs hg k1
    go_upto_if 32 with (fail)
    go_cut [] (fun wx => ∃ A k cp X, Me w wx base g ge eb en et (.slice A k cp) false X ∧ k = X.length ∧ X.length ≤ 2)
    case first =>
      cases b2
      case false =>
        go_wp2_with fail
        go_meet
        exact ⟨_, _, _, _, K5.out, rfl, by show 1 ≤ 2; omega⟩
      case true =>
        go_wp2_with fail
        refine (mrec 1302 et en _).mono ?_
        rintro e wl ⟨rfl, hb⟩
        have K := Lib.hid ((K5.out.below hb).alloc (.cells (rcC ⟨1302, et, en, []⟩ (.slice none 0 0)) 63))
        have Q := Lib.hid (Blk.new wl (rcC ⟨1302, et, en, []⟩ (.slice none 0 0)) 63)
        have hgr := (K5.out.below hb).eb.lt
        have hgs := ca_lt (K5.out.below hb).src
        have HVO := Lib.hid (show (Value.slice (some ⟨wz.heap.size, 0, none⟩) 1 1).ownBlock ≠ some wl.heap.size from fun e => by have := (K5.out.below hb).own.lt _ e; omega)
        have HPO := Lib.hid (show ∀ y ∈ [x], y.sl.ownBlock ≠ some wl.heap.size from fun y hy e => by have := ((K5.out.below hb).ps y hy).1.lt _ e; omega)
        have HGR := Lib.hid hgr
        have QN := Lib.hid (show some g ≠ some wl.heap.size from fun e => by injection e with e; omega)
        clear hb K5 hgs
        go_wp2_with fail
        generalize wl.heap.size = gr at *
        refine (mnum _ _ _).mono ?_
        rintro e wl ⟨rfl, hb⟩
        have K := Lib.hid (K.out.below hb)
        have Q := Lib.hid (Q.out.below hb)
        clear hb
        go_wp2_with fail
        refine (ca_text _ base g K.out.src).mono ?_
        rintro e wl ⟨y1, rfl, _, hs, hg⟩
        have K := Lib.hid (K.out.step hs hg)
        have Q := Lib.hid (Q.out.grown hg QN.out)
        clear hs hg
        go_wp2_with fail
        refine (mstr _ _ _).mono ?_
        rintro e wl ⟨rfl, hb⟩
        have K := Lib.hid (K.out.below hb)
        have Q := Lib.hid (Q.out.below hb)
        clear hb
        go_wp2_with fail
        refine (ca_pick _ base g wl.heap.size 3 [420, 493, (-1)] 3 (K.out.src.alloc _) (Blk.new wl _ _) (by have := ca_lt K.out.src; omega) rfl (by omega) (by omega)).mono ?_
        rintro e wl ⟨y2, rfl, _, hs, hg⟩
        have K := Lib.hid ((K.out.alloc (.cells #[.int .i64 420, .int .i64 493, .int .i64 (-1)] 3)).step hs hg)
        have Q := Lib.hid ((Q.out.alloc (.cells #[.int .i64 420, .int .i64 493, .int .i64 (-1)] 3)).grown hg QN.out)
        clear hs hg
        go_wp2_with fail
        refine (mnum _ _ _).mono ?_
        rintro e wl ⟨rfl, hb⟩
        have K := Lib.hid (K.out.below hb)
        have Q := Lib.hid (Q.out.below hb)
        clear hb
        go_wp2_with fail
        refine (ca_ids _ base g K.out.src).mono ?_
        rintro e wl ⟨y3, rfl, hs, hg⟩
        have K := Lib.hid (K.out.step hs hg)
        have Q := Lib.hid (Q.out.grown hg QN.out)
        clear hs hg
        go_wp2_with fail
        refine (mnum _ _ _).mono ?_
        rintro e wl ⟨rfl, hb⟩
        have K := Lib.hid (K.out.below hb)
        have Q := Lib.hid (Q.out.below hb)
        clear hb
        go_wp2_with fail
        refine (ca_int _ base g 17 K.out.src (by omega) (by omega)).mono ?_
        rintro e wl ⟨y4, rfl, _, _, hs, hg⟩
        have K := Lib.hid (K.out.step hs hg)
        have Q := Lib.hid (Q.out.grown hg QN.out)
        clear hs hg
        go_wp2_with fail
        refine (mnum _ _ _).mono ?_
        rintro e wl ⟨rfl, hb⟩
        have K := Lib.hid (K.out.below hb)
        have Q := Lib.hid (Q.out.below hb)
        clear hb
        go_wp2_with fail
        refine (mstr _ _ _).mono ?_
        rintro e wl ⟨rfl, hb⟩
        have K := Lib.hid (K.out.below hb)
        have Q := Lib.hid (Q.out.below hb)
        clear hb
        have hgw := Q.out.lt
        have c3 := (Q.out.alloc (.cells #[.string ⟨#[105, 116, 101, 109]⟩, .int .i64 1, .int .i64 0, .string ⟨#[]⟩, .string ⟨#[110, 97, 109, 101]⟩, .int .i64 2, .int .i64 0, .string y1, .string ⟨#[109, 111, 100, 101]⟩, .int .i64 1, .int .i64 y2, .string ⟨#[]⟩, .string ⟨#[111, 117, 105, 100]⟩, .int .i64 1, .int .i64 y3, .string ⟨#[]⟩, .string ⟨#[112, 101, 114, 109]⟩, .int .i64 1, .int .i64 y4, .string ⟨#[]⟩, .string ⟨#[114, 111, 108, 101]⟩, .int .i64 2, .int .i64 0, .string ⟨#[99, 114, 101, 97, 116, 101]⟩] 58)).cell 3
        have f3 := (Q.out.alloc (.cells #[.string ⟨#[105, 116, 101, 109]⟩, .int .i64 1, .int .i64 0, .string ⟨#[]⟩, .string ⟨#[110, 97, 109, 101]⟩, .int .i64 2, .int .i64 0, .string y1, .string ⟨#[109, 111, 100, 101]⟩, .int .i64 1, .int .i64 y2, .string ⟨#[]⟩, .string ⟨#[111, 117, 105, 100]⟩, .int .i64 1, .int .i64 y3, .string ⟨#[]⟩, .string ⟨#[112, 101, 114, 109]⟩, .int .i64 1, .int .i64 y4, .string ⟨#[]⟩, .string ⟨#[114, 111, 108, 101]⟩, .int .i64 2, .int .i64 0, .string ⟨#[99, 114, 101, 97, 116, 101]⟩] 58)).free 3
        go_upto_region 9 with (fail)
        clear c3 f3
        have k7 := ((K.out.far1 HGR.out HVO.out HPO.out 3 (.slice (some ⟨wl.heap.size, 0, none⟩) 6 6)).alloc (.cells #[.string ⟨#[105, 116, 101, 109]⟩, .int .i64 1, .int .i64 0, .string ⟨#[]⟩, .string ⟨#[110, 97, 109, 101]⟩, .int .i64 2, .int .i64 0, .string y1, .string ⟨#[109, 111, 100, 101]⟩, .int .i64 1, .int .i64 y2, .string ⟨#[]⟩, .string ⟨#[111, 117, 105, 100]⟩, .int .i64 1, .int .i64 y3, .string ⟨#[]⟩, .string ⟨#[112, 101, 114, 109]⟩, .int .i64 1, .int .i64 y4, .string ⟨#[]⟩, .string ⟨#[114, 111, 108, 101]⟩, .int .i64 2, .int .i64 0, .string ⟨#[99, 114, 101, 97, 116, 101]⟩] 58))
        have q7 := ((Q.out.put 3 (.slice (some ⟨wl.heap.size, 0, none⟩) 6 6)).alloc (.cells #[.string ⟨#[105, 116, 101, 109]⟩, .int .i64 1, .int .i64 0, .string ⟨#[]⟩, .string ⟨#[110, 97, 109, 101]⟩, .int .i64 2, .int .i64 0, .string y1, .string ⟨#[109, 111, 100, 101]⟩, .int .i64 1, .int .i64 y2, .string ⟨#[]⟩, .string ⟨#[111, 117, 105, 100]⟩, .int .i64 1, .int .i64 y3, .string ⟨#[]⟩, .string ⟨#[112, 101, 114, 109]⟩, .int .i64 1, .int .i64 y4, .string ⟨#[]⟩, .string ⟨#[114, 111, 108, 101]⟩, .int .i64 2, .int .i64 0, .string ⟨#[99, 114, 101, 97, 116, 101]⟩] 58))
        have hse : (wl.setCell ⟨gr, 3, none⟩ (.slice (some ⟨wl.heap.size, 0, none⟩) 6 6)).heap.size = wl.heap.size := by simp [World.setCell]
        have o7 := OwnE.made EP (wl.setCell ⟨gr, 3, none⟩ (.slice (some ⟨wl.heap.size, 0, none⟩) 6 6)) #[.string ⟨#[105, 116, 101, 109]⟩, .int .i64 1, .int .i64 0, .string ⟨#[]⟩, .string ⟨#[110, 97, 109, 101]⟩, .int .i64 2, .int .i64 0, .string y1, .string ⟨#[109, 111, 100, 101]⟩, .int .i64 1, .int .i64 y2, .string ⟨#[]⟩, .string ⟨#[111, 117, 105, 100]⟩, .int .i64 1, .int .i64 y3, .string ⟨#[]⟩, .string ⟨#[112, 101, 114, 109]⟩, .int .i64 1, .int .i64 y4, .string ⟨#[]⟩, .string ⟨#[114, 111, 108, 101]⟩, .int .i64 2, .int .i64 0, .string ⟨#[99, 114, 101, 97, 116, 101]⟩] [⟨⟨#[105, 116, 101, 109]⟩, 1, 0, ⟨#[]⟩⟩, ⟨⟨#[110, 97, 109, 101]⟩, 2, 0, y1⟩, ⟨⟨#[109, 111, 100, 101]⟩, 1, y2, ⟨#[]⟩⟩, ⟨⟨#[111, 117, 105, 100]⟩, 1, y3, ⟨#[]⟩⟩, ⟨⟨#[112, 101, 114, 109]⟩, 1, y4, ⟨#[]⟩⟩, ⟨⟨#[114, 111, 108, 101]⟩, 2, 0, ⟨#[99, 114, 101, 97, 116, 101]⟩⟩] rfl (base := ge + 1) (by rw [hse]; have := HGR.out; omega) (by show 6 ≤ 1000; omega) (n := 6) rfl
        rw [hse] at o7
        obtain ⟨xn, hxn⟩ : ∃ xn : Rm, xn = ⟨⟨1302, et, en, [⟨⟨#[105, 116, 101, 109]⟩, 1, 0, ⟨#[]⟩⟩, ⟨⟨#[110, 97, 109, 101]⟩, 2, 0, y1⟩, ⟨⟨#[109, 111, 100, 101]⟩, 1, y2, ⟨#[]⟩⟩, ⟨⟨#[111, 117, 105, 100]⟩, 1, y3, ⟨#[]⟩⟩, ⟨⟨#[112, 101, 114, 109]⟩, 1, y4, ⟨#[]⟩⟩, ⟨⟨#[114, 111, 108, 101]⟩, 2, 0, ⟨#[99, 114, 101, 97, 116, 101]⟩⟩]⟩, some ⟨wl.heap.size, 0, none⟩, 6⟩ := ⟨_, rfl⟩
        have Q7 := Lib.hid (show Blk ((wl.setCell ⟨gr, 3, none⟩ (.slice (some ⟨wl.heap.size, 0, none⟩) 6 6)).alloc (.cells #[.string ⟨#[105, 116, 101, 109]⟩, .int .i64 1, .int .i64 0, .string ⟨#[]⟩, .string ⟨#[110, 97, 109, 101]⟩, .int .i64 2, .int .i64 0, .string y1, .string ⟨#[109, 111, 100, 101]⟩, .int .i64 1, .int .i64 y2, .string ⟨#[]⟩, .string ⟨#[111, 117, 105, 100]⟩, .int .i64 1, .int .i64 y3, .string ⟨#[]⟩, .string ⟨#[112, 101, 114, 109]⟩, .int .i64 1, .int .i64 y4, .string ⟨#[]⟩, .string ⟨#[114, 111, 108, 101]⟩, .int .i64 2, .int .i64 0, .string ⟨#[99, 114, 101, 97, 116, 101]⟩] 58)) gr 63 (rcC xn.r xn.sl) by rw [hxn]; exact q7)
        have O7 := Lib.hid (show OwnE EP ((wl.setCell ⟨gr, 3, none⟩ (.slice (some ⟨wl.heap.size, 0, none⟩) 6 6)).alloc (.cells #[.string ⟨#[105, 116, 101, 109]⟩, .int .i64 1, .int .i64 0, .string ⟨#[]⟩, .string ⟨#[110, 97, 109, 101]⟩, .int .i64 2, .int .i64 0, .string y1, .string ⟨#[109, 111, 100, 101]⟩, .int .i64 1, .int .i64 y2, .string ⟨#[]⟩, .string ⟨#[111, 117, 105, 100]⟩, .int .i64 1, .int .i64 y3, .string ⟨#[]⟩, .string ⟨#[112, 101, 114, 109]⟩, .int .i64 1, .int .i64 y4, .string ⟨#[]⟩, .string ⟨#[114, 111, 108, 101]⟩, .int .i64 2, .int .i64 0, .string ⟨#[99, 114, 101, 97, 116, 101]⟩] 58)) (ge + 1) xn.sl xn.r.ps by rw [hxn]; exact o7)
        have XL := Lib.hid (show xn.r.ps.length ≤ 11 by rw [hxn]; show 6 ≤ 11; omega)
        have XK := Lib.hid (show nmsOk xn.r.ps = true by rw [hxn]; exact (by unfold nmsOk; simp only [List.all_cons, List.all_nil, Bool.and_true, Bool.and_eq_true, decide_eq_true_eq]; exact ⟨⟨rfl, by first | assumption | decide⟩, ⟨rfl, by first | assumption | decide⟩, ⟨rfl, by first | assumption | decide⟩, ⟨rfl, by first | assumption | decide⟩, ⟨rfl, by first | assumption | decide⟩, ⟨rfl, by first | assumption | decide⟩⟩))
        have XF := Lib.hid (show ∀ k, xn.sl.ownBlock = some k → (Value.slice (some ⟨wz.heap.size, 0, none⟩) 1 1).ownBlock ≠ some k by
          rw [hxn]; intro k hk e; have h1 : wl.heap.size = k := Option.some.inj hk; have := K.out.own.lt k e; omega)
        have K7 := Lib.hid k7
        clear k7 q7 o7 hse hxn HVO HPO Q K hgw
        generalize (wl.setCell ⟨gr, 3, none⟩ (.slice (some ⟨wl.heap.size, 0, none⟩) 6 6)).alloc (.cells #[.string ⟨#[105, 116, 101, 109]⟩, .int .i64 1, .int .i64 0, .string ⟨#[]⟩, .string ⟨#[110, 97, 109, 101]⟩, .int .i64 2, .int .i64 0, .string y1, .string ⟨#[109, 111, 100, 101]⟩, .int .i64 1, .int .i64 y2, .string ⟨#[]⟩, .string ⟨#[111, 117, 105, 100]⟩, .int .i64 1, .int .i64 y3, .string ⟨#[]⟩, .string ⟨#[112, 101, 114, 109]⟩, .int .i64 1, .int .i64 y4, .string ⟨#[]⟩, .string ⟨#[114, 111, 108, 101]⟩, .int .i64 2, .int .i64 0, .string ⟨#[99, 114, 101, 97, 116, 101]⟩] 58) = w7 at *
        have q3 := K7.out.eb.cell 3
        have hg7 := K7.out.eb.lt
        have K8 := Lib.hid (K7.out.alloc (.cells (rcC xn.r xn.sl) 63))
        have O8 := Lib.hid (O7.out.alloc (.cells (rcC xn.r xn.sl) 63))
        have RW := Lib.hid (row_newE ER w7 (rcC xn.r xn.sl) 63 xn rfl (Nat.lt_succ_self w7.heap.size))
        have hbase2 : ge + 1 ≤ (w7.alloc (.cells (rcC xn.r xn.sl) 63)).heap.size := by have := K8.out.eb.lt; exact this
        go_wp2_with (first | ((with_reducible refine load_blk ?_ 63 (.tmp 10) ?_ Q7.out ?_ _ Tryz.underlying63 ?_ ?_ ?_); (iterate 4 rfl); exact rc_sz _ _) | (refine wpList_append_el ER rfl (.tmp 54) (.tmp 56) rfl (ge + 1) _ [x] rfl K8.out.own (w7.heap.size + 1) (some ⟨w7.heap.size, 0, none⟩) 1 1 [xn] rfl rfl RW.out (by simp) hbase2 ?_; intro v6 w6 ho6 hg6 hat6; obtain ⟨g6, c6, hv6⟩ := Joins.ownsRow_form ho6 (by simp); subst hv6; obtain ⟨cb6, st6⟩ := K8.out.app O8.out XF.out XL.out XK.out ho6 hg6 (hat6.imp id id); have qB := cb6.cell 3; have fB := cb6.free 3))
        go_meet
        exact ⟨_, _, _, [x] ++ [xn], st6, rfl, by show 2 ≤ 2; omega⟩
    case rest =>
    obtain ⟨A, k, cp, X, st, hn, hl⟩ := hcut
    have ST := Lib.hid st
    have HN := Lib.hid hn
    have HL := Lib.hid hl
    clear st hn hl K5
    go_wp2_with fail
    refine (ca_bool _ base g 7 ST.out.src (by omega) (by omega)).mono ?_
    rintro e wl ⟨b3, rfl, hs, hg⟩
    have ST7 := Lib.hid (ST.out.step hs hg)
    clear hs hg ST
    cases b3
    case true =>
      have ec := false
      have st := ST7.out
      have hn := HN.out
      have hl : X.length ≤ 3 := by have := HL.out; omega
      clear ST7
      have STF := Lib.hid st
      have HNF := Lib.hid hn
      have HLF := Lib.hid hl
      clear st hn hl
      go_wp2_with (first | ((with_reducible refine load_blk ?_ 39 (.tmp 9) ?_ STF.out.eb ?_ _ Tryz.underlying39 ?_ ?_ ?_); (iterate 4 rfl); exact ev_sz _ _ _ _ _) | ((with_reducible refine store_blk ?_ 39 (.tmp 8) (.tmp 71) ?_ STF.out.rb (evC eb en et (.slice A k cp) false) ?_ ?_ ?_ ?_ ?_ ?_); (iterate 4 rfl); (exact ev_sz _ _ _ _ _); rfl; (exact ev_one _ _ _ _ _ _ _)))
      refine bodyPost_ret (ev_ret (k := 8) (fn := Tryz.f13) rfl _ _ w.heap.size eb en et (.slice A k cp) false rfl (Blk.row STF.out.rb _)) rfl ?_
      exact me_end STF.out HNF.out HLF.out
    case false =>
      have hst := ST7.out
      have hlx := HL.out
      clear ST7
      have q3 := hst.eb.cell 3
      have hge := hst.eb.lt
      go_wp2_with fail
      go_region_law
        (first
          | (go_simp; go_at_call 31; refine (mrec 1320 et en _).mono ?_; rintro e w13 ⟨rfl, hb3⟩; have st3 := hst.drew.below hb3; have qA := st3.eb.cell 3; have qC := (st3.alloc (.cells (rcC ⟨1320, et, en, []⟩ (.slice none 0 0)) 63)).eb.cell 3; go_simp)
          | (refine step_append_el ER (by rfl) (.tmp 63) (.tmp 67) (by rfl) (ge + 1) (.slice A k cp) X (by rfl) (by exact (st3.alloc _).own) (w13.heap.size + 1) (some ⟨w13.heap.size, 0, none⟩) 1 1 [⟨⟨1320, et, en, []⟩, none, 0⟩] (by rfl) (by rfl) (by exact row_newE ER w13 (rcC ⟨1320, et, en, []⟩ (.slice none 0 0)) 63 ⟨⟨1320, et, en, []⟩, none, 0⟩ rfl (by omega)) (by simp; omega) (by have := st3.eb.lt; simp; omega) ?_; intro v4 w4 own4 hg4 hat4; obtain ⟨g4, c4, hv4⟩ := Joins.ownsRow_form own4 (by simp); subst hv4; obtain ⟨cb4, st4⟩ := (st3.alloc (.cells (rcC ⟨1320, et, en, []⟩ (.slice none 0 0)) 63)).app (x := ⟨⟨1320, et, en, []⟩, none, 0⟩) (OwnE.nil _ _) (fun k hk => by cases hk) (by show 0 ≤ 11; omega) rfl own4 hg4 (hat4.imp id id); simp only [List.length_append, List.length_cons, List.length_nil, Nat.zero_add] at st4; have qB := cb4.cell 3; have fB := cb4.free 3; have f4 := st4.eb.free 4; have d4 := st4.eb.cell 4))
      all_goals
        have HX1 := Lib.hid (show X.length + 1 = (X ++ [(⟨⟨1320, et, en, []⟩, none, 0⟩ : Rm)]).length by simp)
        have st := st4.done true
        have hn := HX1.out
        have hl : (X ++ [(⟨⟨1320, et, en, []⟩, none, 0⟩ : Rm)]).length ≤ 3 := by rw [← HX1.out]; omega
        clear q3 qA qB qC fB f4 d4 cb4 own4 st3 st4 hst hb3 hg4 hat4 hlx
        have STF := Lib.hid st
        have HNF := Lib.hid hn
        have HLF := Lib.hid hl
        clear st hn hl
        go_wp2_with (first | ((with_reducible refine load_blk ?_ 39 (.tmp 9) ?_ STF.out.eb ?_ _ Tryz.underlying39 ?_ ?_ ?_); (iterate 4 rfl); exact ev_sz _ _ _ _ _) | ((with_reducible refine store_blk ?_ 39 (.tmp 8) (.tmp 71) ?_ STF.out.rb (evC eb en et (.slice (some ⟨g4, 0, none⟩) (X.length + 1) c4) true) ?_ ?_ ?_ ?_ ?_ ?_); (iterate 4 rfl); (exact ev_sz _ _ _ _ _); rfl; (exact ev_one _ _ _ _ _ _ _)))
        refine bodyPost_ret (ev_ret (k := 8) (fn := Tryz.f13) rfl _ _ w.heap.size eb en et (.slice (some ⟨g4, 0, none⟩) (X.length + 1) c4) true rfl (Blk.row STF.out.rb _)) rfl ?_
        exact me_end STF.out HNF.out HLF.out
end Go.Proofs.YtpldopoeopjcoaaGreatDoor
/- Words of package expression: letter, digit, part, keyword, name. -/
namespace Go.Proofs.YtpldopoeopjcoaaGreatDoor
open Go.RowKit
def dig38 (c : UInt8) : Bool := decide (48 ≤ c.toNat) && decide (c.toNat ≤ 57)
def keyB (s : ByteArray) : Bool := s.toList == [97, 110, 100] || s.toList == [111, 114] || s.toList == [110, 111, 116] || s.toList == [104, 97, 115]
/-- The name of a pair in an expression. -/
def nam38 (s : ByteArray) : Bool := nameBv s.data.toList && !keyB s
theorem vletter (c : UInt8) (w : World) : Calls Tryz.prog 61 #[.int .u8 (c.toNat : Int)] w fun e w' => e = .returned (.bool (nma c)) ∧ w = w' := by
  have H := Lib.hid (show nma c = (decide (97 ≤ c.toNat) && decide (c.toNat ≤ 122)) from rfl)
  by_cases h1 : 97 ≤ c.toNat
  · by_cases h2 : c.toNat ≤ 122
    · have H := Lib.hid (show nma c = true by rw [H.out]; simp [h1, h2])
      have c1 : (97 : Int) ≤ (c.toNat : Int) := by omega
      have c2 : (c.toNat : Int) ≤ 122 := by omega
      clear h1 h2
      go_enter Tryz.func61, Tryz.ntmps61
      go_wp2
      go_ret
      exact ⟨retB H.out.symm, rfl⟩
    · have H := Lib.hid (show nma c = false by rw [H.out]; simp [h2])
      have c1 : (97 : Int) ≤ (c.toNat : Int) := by omega
      have c2 : ¬ (c.toNat : Int) ≤ 122 := by omega
      clear h1 h2
      go_enter Tryz.func61, Tryz.ntmps61
      go_wp2
      go_ret
      exact ⟨retB H.out.symm, rfl⟩
  · have H := Lib.hid (show nma c = false by rw [H.out]; simp [h1])
    have c1 : ¬ (97 : Int) ≤ (c.toNat : Int) := by omega
    clear h1
    go_enter Tryz.func61, Tryz.ntmps61
    go_wp2
    go_ret
    exact ⟨retB H.out.symm, rfl⟩
theorem vdigit38 (c : UInt8) (w : World) : Calls Tryz.prog 74 #[.int .u8 (c.toNat : Int)] w fun e w' => e = .returned (.bool (dig38 c)) ∧ w = w' := by
  have H := Lib.hid (show dig38 c = (decide (48 ≤ c.toNat) && decide (c.toNat ≤ 57)) from rfl)
  by_cases h1 : 48 ≤ c.toNat
  · by_cases h2 : c.toNat ≤ 57
    · have H := Lib.hid (show dig38 c = true by rw [H.out]; simp [h1, h2])
      have c1 : (48 : Int) ≤ (c.toNat : Int) := by omega
      have c2 : (c.toNat : Int) ≤ 57 := by omega
      clear h1 h2
      go_enter Tryz.func74, Tryz.ntmps74
      go_wp2
      go_ret
      exact ⟨retB H.out.symm, rfl⟩
    · have H := Lib.hid (show dig38 c = false by rw [H.out]; simp [h2])
      have c1 : (48 : Int) ≤ (c.toNat : Int) := by omega
      have c2 : ¬ (c.toNat : Int) ≤ 57 := by omega
      clear h1 h2
      go_enter Tryz.func74, Tryz.ntmps74
      go_wp2
      go_ret
      exact ⟨retB H.out.symm, rfl⟩
  · have H := Lib.hid (show dig38 c = false by rw [H.out]; simp [h1])
    have c1 : ¬ (48 : Int) ≤ (c.toNat : Int) := by omega
    clear h1
    go_enter Tryz.func74, Tryz.ntmps74
    go_wp2
    go_ret
    exact ⟨retB H.out.symm, rfl⟩
theorem nmd_eq (c : UInt8) : nmd c = (nma c || dig38 c || decide (c.toNat = 95)) := rfl
theorem vpart38 (c : UInt8) (w : World) : Calls Tryz.prog 63 #[.int .u8 (c.toNat : Int)] w fun e w' => e = .returned (.bool (nmd c)) ∧ w = w' := by
  have H := Lib.hid (nmd_eq c)
  have H1 := Lib.hid (vletter c w)
  have H2 := Lib.hid (vdigit38 c w)
  generalize nma c = b1 at *
  generalize dig38 c = b2 at *
  have q : (decide ((c.toNat : Int) = 95)) = decide (c.toNat = 95) := by
    by_cases h : c.toNat = 95
    · simp [h]
    · simp [h]; omega
  have q2 : ((c.toNat : Int) == 95) = decide (c.toNat = 95) := by rw [← q]; rfl
  clear q
  generalize decide (c.toNat = 95) = b3 at *
  go_enter Tryz.func63, Tryz.ntmps63
  go_wp2_with fail
  refine H1.out.mono ?_
  rintro e w1 ⟨rfl, rfl⟩
  cases b1
  · go_wp2_with fail
    refine H2.out.mono ?_
    rintro e w1 ⟨rfl, rfl⟩
    cases b2
    · go_wp2_with fail
      go_ret
      exact ⟨retB (by rw [H.out]; simp), rfl⟩
    · go_wp2_with fail
      go_ret
      exact ⟨retB (by rw [H.out]; simp), rfl⟩
  · go_wp2_with fail
    go_ret
    exact ⟨retB (by rw [H.out]; simp), rfl⟩
theorem vkey38 (s : ByteArray) (w : World) : Calls Tryz.prog 62 #[.string s] w fun e w' => e = .returned (.bool (keyB s)) ∧ w = w' := by
  have H := Lib.hid (show keyB s = (s.toList == [97, 110, 100] || s.toList == [111, 114] || s.toList == [110, 111, 116] || s.toList == [104, 97, 115]) from rfl)
  cases h1 : (s.toList == [97, 110, 100])
  case true =>
    have H := Lib.hid (show keyB s = true by rw [H.out, h1]; rfl)
    go_enter Tryz.func62, Tryz.ntmps62
    go_wp2
    go_ret
    exact ⟨retB H.out.symm, rfl⟩
  case false =>
  cases h2 : (s.toList == [111, 114])
  case true =>
    have H := Lib.hid (show keyB s = true by rw [H.out, h1, h2]; rfl)
    go_enter Tryz.func62, Tryz.ntmps62
    go_wp2
    go_ret
    exact ⟨retB H.out.symm, rfl⟩
  case false =>
  cases h3 : (s.toList == [110, 111, 116])
  case true =>
    have H := Lib.hid (show keyB s = true by rw [H.out, h1, h2, h3]; rfl)
    go_enter Tryz.func62, Tryz.ntmps62
    go_wp2
    go_ret
    exact ⟨retB H.out.symm, rfl⟩
  case false =>
  cases h4 : (s.toList == [104, 97, 115])
  all_goals
    go_enter Tryz.func62, Tryz.ntmps62
    go_wp2
    go_ret
    exact ⟨retB (by rw [H.out, h1, h2, h3, h4]; rfl), rfl⟩
theorem vname38 (s : ByteArray) (hm : s.size ≤ maxLen) (w : World) : Calls Tryz.prog 40 #[.string s] w fun e w' => e = .returned (.bool (nam38 s)) ∧ w = w' := by
  unfold maxLen at hm
  by_cases h0 : s.size = 0
  · have H := Lib.hid (show nam38 s = false by unfold nam38; rw [nameB_empty s h0]; rfl)
    have d1 : (s.size : Int) < 1 := by omega
    clear h0
    go_enter Tryz.func40, Tryz.ntmps40
    go_wp2_with fail
    go_ret
    exact ⟨retB H.out.symm, rfl⟩
  have hp : 0 < s.size := by omega
  have d1 : ¬ (s.size : Int) < 1 := by omega
  by_cases h16 : 16 < s.size
  · have H := Lib.hid (show nam38 s = false by unfold nam38; rw [name_eq s hp, show decide (s.size ≤ 16) = false by simp; omega]; rfl)
    have d2 : (16 : Int) < (s.size : Int) := by omega
    clear h16 h0
    go_enter Tryz.func40, Tryz.ntmps40
    go_wp2_with fail
    go_ret
    exact ⟨retB H.out.symm, rfl⟩
  have d2 : ¬ (16 : Int) < (s.size : Int) := by omega
  have HL := Lib.hid (vletter s[0] w)
  have HN := Lib.hid (name_eq s hp)
  have HD := Lib.hid (show decide (s.size ≤ 16) = true by simp; omega)
  have hi : (0 : Int) < (s.size : Int) := by omega
  cases ha : nma s[0]
  · have H := Lib.hid (show nam38 s = false by unfold nam38; rw [HN.out, ha]; simp)
    clear h16 h0
    go_enter Tryz.func40, Tryz.ntmps40
    go_wp2_with fail
    refine HL.out.mono ?_
    rintro e w1 ⟨rfl, rfl⟩
    go_wp2_with fail
    go_ret
    exact ⟨retB H.out.symm, rfl⟩
  have HK := Lib.hid (vkey38 s w)
  cases hk : keyB s
  case true =>
    have H := Lib.hid (show nam38 s = false by unfold nam38; rw [hk]; simp)
    clear h16 h0
    go_enter Tryz.func40, Tryz.ntmps40
    go_wp2_with fail
    refine HL.out.mono ?_
    rintro e w1 ⟨rfl, rfl⟩
    go_wp2_with fail
    refine HK.out.mono ?_
    rintro e w1 ⟨rfl, rfl⟩
    go_wp2_with fail
    go_ret
    exact ⟨retB H.out.symm, rfl⟩
  case false =>
  have HA := Lib.hid (show nam38 s = s.data.toList.all nmd by unfold nam38; rw [HN.out, HD.out, ha, hk]; simp)
  clear h16 h0
  go_enter Tryz.func40, Tryz.ntmps40
  go_wp2_with fail
  refine HL.out.mono ?_
  rintro e w1 ⟨rfl, rfl⟩
  go_wp2_with fail
  refine HK.out.mono ?_
  rintro e w1 ⟨rfl, rfl⟩
  go_wp2_with fail
  clear HL HK HN HD ha hk
  go_loopw [24] (fun i wr => ∃ k : Nat, k ≤ s.size ∧ i = .int .i64 k ∧ Hid ((s.data.toList.take k).all nmd = true) ∧ wr = w) (fun i _ => s.size - (intOf i).toNat)
  case atStart => exact ⟨0, Nat.zero_le _, rfl, Lib.hid rfl, rfl⟩
  case round =>
    obtain ⟨k, hk, rfl, hsafe, rfl⟩ := hrel
    by_cases hlt : k < s.size
    · have hlt1 : (k : Int) < (s.size : Int) := by omega
      have HP := Lib.hid (vpart38 s[k] wr)
      cases hc : nmd s[k]
      · have H := Lib.hid (all_stop nmd s k hlt hc)
        go_wp2_with fail
        refine HP.out.mono ?_
        rintro e w1 ⟨rfl, rfl⟩
        go_wp2_with fail
        go_ret
        exact ⟨retB (by rw [HA.out, H.out]), rfl⟩
      · have H := Lib.hid (all_step nmd s k hlt hsafe.out hc)
        go_wp2_with fail
        refine HP.out.mono ?_
        rintro e w1 ⟨rfl, rfl⟩
        go_wp2_with fail
        go_roundw
        case rel => exact ⟨k + 1, by omega, by go_num, H, trivial⟩
        case measure => simp [intOf]; omega
    · have hlt1 : ¬ (k : Int) < (s.size : Int) := by omega
      go_wp2_with fail
      go_ret
      exact ⟨retB (by rw [HA.out, ← take_all s k (by omega), hsafe.out]), rfl⟩
end Go.Proofs.YtpldopoeopjcoaaGreatDoor

/- The source of numbers of package kauditmake: Record. -/
import Derived.Test.YtollifnnpihfdaaDoorRecMem
namespace Go.Proofs.YtollifnnpihfdaaDoor
open Go.RowKit
theorem rec_one (r : Rc) (A : Option Addr) (n c : Nat) : (rcC r (.slice A n c)).all (·.oneCell') = true := by simp [Value.oneCell']
theorem rec_ret1 {fn : Func} (h : fn.results = #[.cell 2 29]) (tmps : Array Value) (w : World) (g : Nat) (r : Rc) (v : Value) (hp : tmps.getD 2 undef = .pointer (some ⟨g, 0, none⟩)) (hg : RcB w g r v) :
    (results fn tmps).run Tryd.prog w = .ok (rcV r v) w :=
  results_cell_row h tmps w g _ (rcC r v) (0, 0) _ hp hg Tryd.underlying29 rfl (rc_sz r v)
/-- What Record keeps. -/
structure Rr1 (w wr : World) (base g : Nat) (b : Int) (gc : Nat) (r : Rc) (tv : Value) : Prop where
  only : w.grownBy wr (some g)
  src : SrcOk wr base g b
  rb : RcB wr w.heap.size zeroRc (.slice none 0 0)
  cb : RcB wr gc r tv
  own : OwnE EP wr (gc + 1) tv r.ps
  h2 : w.heap.size < gc
  h3 : g < w.heap.size
  h4 : base ≤ w.heap.size
section
variable {w wr w' : World} {base g gc : Nat} {b b' : Int} {r r' : Rc} {tv : Value}
theorem Rr1.below (h : Rr1 w wr base g b gc r tv) (hb : Below wr.heap.size wr w') : Rr1 w w' base g b gc r tv := ⟨h.only.trans ⟨hb.os, hb.tape, hb.output, hb.size, fun i hi _ => hb.block i hi⟩, h.src.below hb, Blk.below h.rb hb, Blk.below h.cb hb, h.own.below hb, h.h2, h.h3, h.h4⟩
theorem Rr1.alloc (h : Rr1 w wr base g b gc r tv) (o : Obj) : Rr1 w (wr.alloc o) base g b gc r tv := h.below ((Below.refl _ _).alloc (Nat.le_refl _) o)
theorem Rr1.drew (h : Rr1 w wr base g b gc r tv) : Rr1 w wr.drew base g b gc r tv := h.below (Below.refl _ _).drew
theorem Rr1.step (h : Rr1 w wr base g b gc r tv) (hs : SrcOk w' base g b') (hg : wr.grownBy w' (some g)) : Rr1 w w' base g b' gc r tv :=
  ⟨h.only.trans hg, hs, Blk.grown h.rb hg (fun e => by injection e with e; have := h.h3; omega), Blk.grown h.cb hg (fun e => by injection e with e; have := h.h2; have := h.h3; omega), h.own.far hg (fun k hk e => by injection e with e; have := h.own.ge k hk; have := h.h2; have := h.h3; omega), h.h2, h.h3, h.h4⟩
theorem Rr1.more (h : Rr1 w wr base g b gc r tv) (hb : b ≤ b') : Rr1 w wr base g b' gc r tv := ⟨h.only, h.src.more hb, h.rb, h.cb, h.own, h.h2, h.h3, h.h4⟩
theorem Rr1.lt (h : Rr1 w wr base g b gc r tv) : g < wr.heap.size := src_lt h.src
theorem Rr1.put (h : Rr1 w wr base g b gc r tv) (i : Nat) (v : Value) (e : (rcC r tv).setIfInBounds i v = rcC r' tv) (ht : r'.ps = r.ps) : Rr1 w (wr.setCell ⟨gc, i, none⟩ v) base g b gc r' tv := by
  have h2 := h.h2
  have h3 := h.h3
  have h4 := h.h4
  have hx := Blk.put h.cb i v
  rw [e] at hx
  exact ⟨only_setCell h.only (.inr (by show w.heap.size ≤ gc; omega)) _, h.src.setCell (by show base ≤ gc; omega) (by show gc ≠ g; omega) _, Blk.put_other h.rb _ (by show w.heap.size ≠ gc; omega), hx, by rw [ht]; exact h.own.farCell (fun e => by have := h.own.ge _ e; omega) _, h2, h3, h4⟩
theorem Rr1.app (h : Rr1 w wr base g b gc r tv) (t : Pr) {v' : Value} (hg : wr.grownBy w' tv.ownBlock) (ho : OwnE EP w' (gc + 1) v' (r.ps ++ [t])) :
    RcB w' gc r tv ∧ Rr1 w (w'.setCell ⟨gc, 3, none⟩ v') base g b gc { r with ps := r.ps ++ [t] } v' := by
  have h2 := h.h2
  have h3 := h.h3
  have h4 := h.h4
  have hge := h.own.ge
  have hr : ∀ k, tv.ownBlock = some k → gc < k := fun k hk => by have := hge k hk; omega
  have cb : RcB w' gc r tv := Blk.grown h.cb hg (fun e => by have := hr _ e; omega)
  exact ⟨cb, only_setCell ⟨hg.os.trans h.only.os, hg.tape.trans h.only.tape, hg.output.trans h.only.output, Nat.le_trans h.only.size hg.size, fun i hi hne => (hg.block i (Nat.lt_of_lt_of_le hi h.only.size) (fun e => by have := hr _ e.symm; omega)).trans (h.only.block i hi hne)⟩ (.inr (by show w.heap.size ≤ gc; omega)) _,
    (h.src.grown hg (fun k e => by have := hr k e; omega)).setCell (by show base ≤ gc; omega) (by show gc ≠ g; omega) _, Blk.put_other (Blk.grown h.rb hg (fun e => by have := hr _ e; omega)) _ (by show w.heap.size ≠ gc; omega), Blk.put cb 3 v', ho.farCell (fun e => by have := ho.ge _ e; omega) _, h2, h3, h4⟩
end
def RecPost (w : World) (base g : Nat) (b : Int) (e : Ending) (w' : World) : Prop :=
  ∃ (x : Rm), e = .returned (rcV x.r x.sl) ∧ OwnE EP w' (w.heap.size + 1) x.sl x.r.ps ∧ SrcOk w' base g b ∧ w.grownBy w' (some g) ∧ x.r.ps.length ≤ 3
set_option maxRecDepth 100000 in
set_option maxHeartbeats 16000000 in
theorem src_record (w : World) (base g : Nat) (b : Int) (h : SrcOk w base g b) (hb : b ≤ 1000000000) :
    Calls Tryd.prog 6 #[.pointer (some ⟨g, 0, none⟩)] w (RecPost w base g (b + 100)) := by
  have HB := Lib.hid hb
  have hlt0 : g < w.heap.size := src_lt h
  have hbase : base ≤ w.heap.size := by have := h.1; omega
  have HS0 := Lib.hid (h.alloc (.cells (rcC zeroRc (.slice none 0 0)) 29))
  have HO0 := Lib.hid (only_alloc (World.grownBy.refl w (some g)) (.cells (rcC zeroRc (.slice none 0 0)) 29))
  have HZ0 := Lib.hid (Blk.new w (rcC zeroRc (.slice none 0 0)) 29)
  clear h hb
  go_enter Tryd.func6, Tryd.ntmps6
  go_wp2_with fail
  refine (src_pick _ base g (w.heap.size + 1) b 10 0 1000000 _ 3 (0, 0) (HS0.out.alloc _) (by have := HB.out; omega) (by have := heap_alloc_new (w.alloc (.cells (rcC zeroRc (.slice none 0 0)) 29)) (.cells #[.int .i64 1005, .int .i64 1200, .int .i64 1300, .int .i64 1302, .int .i64 1305, .int .i64 1306, .int .i64 1307, .int .i64 1309, .int .i64 1320, .int .i64 1331] 3); simpa using this) (by omega) rfl (by omega) (by omega) rfl).mono ?_
  rintro e w1 ⟨ty, rfl, _, _, hs, hg⟩
  have HS1 := Lib.hid hs
  have HO1 := Lib.hid ((only_alloc HO0.out _).trans hg)
  have HZ1 := Lib.hid ((HZ0.out.alloc _).grown hg (fun e => by injection e with e; omega))
  have hlt1 := HZ1.out.lt
  clear hs hg HS0 HO0 HZ0
  go_wp2_with fail
  refine (src_pick _ base g w1.heap.size (b + 1) 6 0 1099511627776 _ 3 (0, 0) (HS1.out.alloc _) (by have := HB.out; omega) (heap_alloc_new w1 _) (by omega) rfl (by omega) (by omega) rfl).mono ?_
  rintro e w2 ⟨ti, rfl, _, _, hs, hg⟩
  have HS2 := Lib.hid hs
  have HO2 := Lib.hid ((only_alloc HO1.out _).trans hg)
  have HZ2 := Lib.hid ((HZ1.out.alloc _).grown hg (fun e => by injection e with e; omega))
  have hlt2 := HZ2.out.lt
  clear hs hg HS1 HO1 HZ1 hlt1
  go_wp2_with fail
  refine (src_pick _ base g w2.heap.size (b + 1 + 1) 4 0 1073741824 _ 3 (0, 0) (HS2.out.alloc _) (by have := HB.out; omega) (heap_alloc_new w2 _) (by omega) rfl (by omega) (by omega) rfl).mono ?_
  rintro e w3 ⟨se, rfl, _, _, hs, hg⟩
  have HO3 := Lib.hid ((only_alloc HO2.out _).trans hg)
  have HZ3 := Lib.hid ((HZ2.out.alloc _).grown hg (fun e => by injection e with e; omega))
  have hlt3 := HZ3.out.lt
  have ST0 := Lib.hid (show Rr1 w (w3.alloc (.cells (rcC ⟨ty, ti, se, []⟩ (.slice none 0 0)) 29)) base g (b + 3) w3.heap.size ⟨ty, ti, se, []⟩ (.slice none 0 0) from
    ⟨only_alloc HO3.out _, (hs.alloc _).more (by omega), HZ3.out.alloc _, Blk.new w3 _ _, OwnE.nil _ _, hlt3, hlt0, hbase⟩)
  clear hs hg HS2 HO2 HZ2 HO3 HZ3 hlt2 hlt3
  go_wp2_with fail
  refine (src_n _ base g (b + 3) 4 ST0.out.src (by have := HB.out; omega) (by omega) (by omega)).mono ?_
  rintro e w4 ⟨m, rfl, m0, m1, hs, hg⟩
  have ST1 := Lib.hid (ST0.out.step hs hg)
  obtain ⟨kn, rfl⟩ := Int.eq_ofNat_of_zero_le m0
  clear hs hg ST0 m0
  generalize w3.heap.size = gc at *
  go_wp2_with fail
  go_loopw [4] (fun i wr => ∃ (k : Nat) (r : Rc) (tv : Value), i = .int .i64 (k : Int) ∧ r.ps.length + k ≤ 3 ∧ Rr1 w wr base g (b + 4 + 20 * r.ps.length) gc r tv) (fun i _ => (intOf i).toNat)
  case atStart => exact ⟨kn, ⟨ty, ti, se, []⟩, _, rfl, by show 0 + kn ≤ 3; omega, ST1.out.more (by simp; omega)⟩
  case round =>
    obtain ⟨k, r, tv, rfl, hlen, hst⟩ := hrel
    clear ST1 m1
    by_cases hk : 0 < k
    · have hk1 : (0 : Int) < (k : Int) := by omega
      have q3 := hst.cb.cell 3
      have hgc := hst.cb.lt
      go_wp2_with fail
      go_region_law
        (first
          | (go_simp; go_at_call 11; refine (src_pair _ base g (b + 4 + 20 * r.ps.length) (by exact hst.src.drew) (by have := HB.out; omega)).mono ?_; rintro e w13 ⟨nm, kd, nu, tx, rfl, _, _, _, _, _, _, hs3, hg3⟩; have st3 := hst.drew.step hs3 hg3; have qA := st3.cb.cell 3; have qC := (st3.alloc (.cells #[.string nm, .int .i64 kd, .int .i64 nu, .string tx] 39)).cb.cell 3; go_simp)
          | (refine step_append_el EP (by rfl) (.tmp 22) (.tmp 25) (by rfl) (gc + 1) tv r.ps (by rfl) (by exact (st3.alloc _).own) (w13.heap.size + 1) (some ⟨w13.heap.size, 0, none⟩) 1 1 [⟨nm, kd, nu, tx⟩] (by rfl) (by rfl) (by exact row_newE EP w13 #[.string nm, .int .i64 kd, .int .i64 nu, .string tx] 39 ⟨nm, kd, nu, tx⟩ rfl (by omega)) (by simp; omega) (by have := st3.cb.lt; simp; omega) ?_; intro v4 w4 own4 hg4 hat4; obtain ⟨g4, c4, hv4⟩ := Joins.ownsRow_form own4 (by simp); subst hv4; obtain ⟨cb4, st4⟩ := (st3.alloc (.cells #[.string nm, .int .i64 kd, .int .i64 nu, .string tx] 39)).app ⟨nm, kd, nu, tx⟩ hg4 own4; have qB := cb4.cell 3; have fB := cb4.free 3))
      all_goals
        simp only [List.length_append, List.length_cons, List.length_nil, Nat.zero_add] at st4
        have ST4 := Lib.hid st4
        clear q3 qA qB qC fB cb4 own4 st3 st4 hst hg3 hs3 hg4 hat4
        go_wp2_with fail
        go_roundw
        case rel => exact ⟨k - 1, { r with ps := r.ps ++ [⟨nm, kd, nu, tx⟩] }, _, by go_num, by show (r.ps ++ [_]).length + (k - 1) ≤ 3; rw [List.length_append, List.length_singleton]; omega, ST4.out.more (by show _ ≤ b + 4 + 20 * (((r.ps ++ [_]).length : Nat) : Int); rw [List.length_append, List.length_singleton]; omega)⟩
        case measure => simp [intOf]; omega
    · obtain rfl : k = 0 := by omega
      obtain ⟨T, c, hf, _⟩ := hst.own.at
      subst hf
      have ST := Lib.hid (hst.more (b' := b + 64) (by omega))
      have HLN := Lib.hid (show r.ps.length ≤ 3 by omega)
      clear hst hlen
      go_wp2_with fail
      refine (src_n _ base g (b + 64) 20 ST.out.src (by have := HB.out; omega) (by omega) (by omega)).mono ?_
      rintro e w5 ⟨y, rfl, y0, y1, hs, hg⟩
      have ST5 := Lib.hid (ST.out.step hs hg)
      clear hs hg ST
      go_upto_if 30 with (fail)
      go_cut [] (fun wx => ∃ r A c, Rr1 w wx base g (b + 70) gc r (.slice A r.ps.length c) ∧ r.ps.length ≤ 3)
      case first =>
        by_cases h7 : y = 19
        · have t7 : (y == 19) = true := by simpa using h7
          clear h7
          go_wp2_with fail
          refine (src_range _ base g (b + 64 + 1) 1299 1303 ST5.out.src (by have := HB.out; omega) (by omega) (by omega) (by omega)).mono ?_
          rintro e w6 ⟨u, rfl, _, _, hs, hg⟩
          have ST6 := Lib.hid (ST5.out.step hs hg)
          clear hs hg
          go_wp2_with fail
          refine (src_range _ base g (b + 64 + 1 + 1) (-1) 1 ST6.out.src (by have := HB.out; omega) (by omega) (by omega) (by omega)).mono ?_
          rintro e w7 ⟨z, rfl, _, _, hs, hg⟩
          have st7 := ST6.out.step hs hg
          have c0 := st7.cb.cell 0
          have c1 := st7.cb.cell 1
          have f0 := st7.cb.free 0
          have f1 := st7.cb.free 1
          have ST8 := Lib.hid ((st7.put (r' := { r with ty := u }) 0 (.int .i64 u) rfl rfl).put (r' := { r with ty := u, ti := z }) 1 (.int .i64 z) rfl rfl)
          clear hs hg ST6 st7
          go_wp2_with fail
          go_meet
          exact ⟨{ r with ty := u, ti := z }, _, _, ST8.out.more (by omega), HLN.out⟩
        · have t7 : (y == 19) = false := by simpa using h7
          clear h7
          go_wp2_with fail
          go_meet
          exact ⟨r, _, _, ST5.out.more (by omega), HLN.out⟩
      case rest =>
      obtain ⟨q, A, c', st, hlq⟩ := hcut
      have HLQ := Lib.hid hlq
      clear hlq
      have ST9 := Lib.hid st
      clear st ST5
      go_wp2_with (first | ((with_reducible refine load_blk ?_ 29 (.tmp 3) ?_ ST9.out.cb ?_ _ Tryd.underlying29 ?_ ?_ ?_); (iterate 4 rfl); exact rc_sz _ _) | ((with_reducible refine store_blk ?_ 29 (.tmp 2) (.tmp 37) ?_ ST9.out.rb (rcC q (.slice A q.ps.length c')) ?_ ?_ ?_ ?_ ?_ ?_); (iterate 4 rfl); (exact rc_sz _ _); rfl; (exact rec_one _ _ _ _)))
      refine bodyPost_ret (rec_ret1 (fn := Tryd.f6) rfl _ _ w.heap.size q (.slice A q.ps.length c') rfl (Blk.row ST9.out.rb _)) rfl ?_
      have h2 := ST9.out.h2
      have h3 := ST9.out.h3
      have h4 := ST9.out.h4
      exact ⟨⟨q, A, c'⟩, rfl, (ST9.out.own.farRow (fun e => by have := ST9.out.own.ge _ e; omega) _).low (by omega), ((ST9.out.src.keep (setRow_other _ _ _ _ (by omega)) (fun i hi => setRow_other _ _ _ _ (by omega))).more (by omega)), ⟨ST9.out.only.os, ST9.out.only.tape, ST9.out.only.output, by rw [setRow_size]; exact ST9.out.only.size, fun i hi hne => (setRow_other _ _ _ _ (by omega)).trans (ST9.out.only.block i hi hne)⟩, HLQ.out⟩
end Go.Proofs.YtollifnnpihfdaaDoor

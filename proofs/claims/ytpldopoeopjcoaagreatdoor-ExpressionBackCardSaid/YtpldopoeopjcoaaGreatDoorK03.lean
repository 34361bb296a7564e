/- Texts of one proof, laid together. -/
import Derived.Test.YtpldopoeopjcoaaGreatDoorK02
import Derived.Deep.RegionHeld
/- Records that package kauditmill makes: syscall, single. -/
namespace Go.Proofs.YtpldopoeopjcoaaGreatDoor
open Go.RowKit
/-- No pair of that name: serial, host; short texts. -/
def nmOk (s : ByteArray) : Bool := s.data.toList != [115, 101, 114, 105, 97, 108] && s.data.toList != [104, 111, 115, 116]
def nmsOk (ps : List Pr) : Bool := ps.all fun p => nmOk p.nm && decide (p.tx.size ≤ 20)
theorem nmsOk_app {a b : List Pr} (h : nmsOk a = true) (k : nmsOk b = true) : nmsOk (a ++ b) = true := by unfold nmsOk at *; rw [List.all_append, h, k]; rfl
theorem nmsOk_take {a : List Pr} (h : nmsOk a = true) (k : Nat) : nmsOk (a.take k) = true := by
  unfold nmsOk at *
  rw [List.all_eq_true] at h ⊢
  exact fun x hx => h x (List.mem_of_mem_take hx)
theorem OwnE.made {α : Type} (E : El α) (w : World) (cs : Array Value) (L : List α) (h : cs.toList = L.flatMap E.C) {base : Nat} (hb : base ≤ w.heap.size) (hl : L.length ≤ 1000) {n : Nat} (hn : n = L.length) : OwnE E (w.alloc (.cells cs E.e)) base (.slice (some ⟨w.heap.size, 0, none⟩) n n) L := by
  subst hn
  refine ⟨E.flat L, .inr ⟨w.heap.size, L.length, cs, rfl, hb, heap_alloc_new w _, Nat.le_refl _, by unfold maxLen; omega, ?_, ?_⟩⟩
  · rw [← Array.length_toList, h, E.flat]
  · rw [h, ← E.flat, List.take_length]
theorem OwnE.take {α : Type} {E : El α} {w : World} {base n c : Nat} {A : Option Addr} {L : List α} (h : OwnE E w base (.slice A n c) L) (k : Nat) (hk : k ≤ L.length) : OwnE E w base (.slice A k c) (L.take k) := by
  obtain ⟨h1, h2⟩ := h
  have hlen : (L.take k).length = k := by rw [List.length_take]; omega
  have hfl : (L.take k).flatMap E.C = (L.flatMap E.C).take (k * E.sz) := by
    have e : L.flatMap E.C = (L.take k).flatMap E.C ++ (L.drop k).flatMap E.C := by rw [← List.flatMap_append, List.take_append_drop]
    have hX : ((L.take k).flatMap E.C).length = k * E.sz := by rw [E.flat, hlen]
    rw [e, ← hX]
    generalize (L.take k).flatMap E.C = X
    generalize (L.drop k).flatMap E.C = Y
    simp
  refine ⟨by rw [E.flat], ?_⟩
  rcases h2 with ⟨e, h0⟩ | ⟨gg, cap, cur, e, hb, hg, hc, hm, hs, ht⟩
  · injection e with e1 e2 e3
    have : k = 0 := by omega
    subst this
    exact .inl ⟨by rw [e1, e3], by rw [hlen]⟩
  · injection e with e1 e2 e3
    refine .inr ⟨gg, cap, cur, by rw [e1, e3, hlen], hb, hg, by rw [hlen]; omega, hm, hs, ?_⟩
    rw [hlen, hfl, ← ht, List.take_take, Nat.min_eq_left (Nat.mul_le_mul_right _ hk)]
/-- What the making of a record keeps. -/
structure Mr (w wr : World) (base g gc : Nat) (r : Rc) (tv : Value) : Prop where
  only : w.grownBy wr (some g)
  src : CaOk wr base g
  rb : RcB wr w.heap.size zeroRc (.slice none 0 0)
  cb : RcB wr gc r tv
  h2 : w.heap.size < gc
  h3 : g < w.heap.size
  h4 : base ≤ w.heap.size
section
variable {w wr w' : World} {base g gc : Nat} {r r' : Rc} {tv tv' : Value}
theorem Mr.below (h : Mr w wr base g gc r tv) (hb : Below wr.heap.size wr w') : Mr w w' base g gc r tv := ⟨h.only.trans ⟨hb.os, hb.tape, hb.output, hb.size, fun i hi _ => hb.block i hi⟩, h.src.below hb, Blk.below h.rb hb, Blk.below h.cb hb, h.h2, h.h3, h.h4⟩
theorem Mr.alloc (h : Mr w wr base g gc r tv) (o : Obj) : Mr w (wr.alloc o) base g gc r tv := h.below ((Below.refl _ _).alloc (Nat.le_refl _) o)
theorem Mr.drew (h : Mr w wr base g gc r tv) : Mr w wr.drew base g gc r tv := h.below (Below.refl _ _).drew
theorem Mr.step (h : Mr w wr base g gc r tv) (hs : CaOk w' base g) (hg : wr.grownBy w' (some g)) : Mr w w' base g gc r tv :=
  ⟨h.only.trans hg, hs, Blk.grown h.rb hg (fun e => by injection e with e; have := h.h3; omega), Blk.grown h.cb hg (fun e => by injection e with e; have := h.h2; have := h.h3; omega), h.h2, h.h3, h.h4⟩
theorem Mr.lt (h : Mr w wr base g gc r tv) : g < wr.heap.size := ca_lt h.src
theorem Mr.put (h : Mr w wr base g gc r tv) (v : Value) (L : List Pr) : Mr w (wr.setCell ⟨gc, 3, none⟩ v) base g gc { r with ps := L } v := by
  have h2 := h.h2
  have h3 := h.h3
  have h4 := h.h4
  exact ⟨only_setCell h.only (.inr (by show w.heap.size ≤ gc; omega)) _, h.src.setCell (by show base ≤ gc; omega) (by show gc ≠ g; omega) _, Blk.put_other h.rb _ (by show w.heap.size ≠ gc; omega), Blk.put h.cb 3 v, h2, h3, h4⟩
theorem Mr.far (h : Mr w wr base g gc r tv) (hg : wr.grownBy w' tv'.ownBlock) (hr : ∀ k, tv'.ownBlock = some k → gc < k) : Mr w w' base g gc r tv := by
  have h2 := h.h2
  have h3 := h.h3
  have h4 := h.h4
  exact ⟨⟨hg.os.trans h.only.os, hg.tape.trans h.only.tape, hg.output.trans h.only.output, Nat.le_trans h.only.size hg.size, fun i hi hne => (hg.block i (Nat.lt_of_lt_of_le hi h.only.size) (fun e => by have := hr _ e.symm; omega)).trans (h.only.block i hi hne)⟩,
    h.src.grown hg (fun k e => by have := hr k e; omega), Blk.grown h.rb hg (fun e => by have := hr _ e; omega), Blk.grown h.cb hg (fun e => by have := hr _ e; omega), h2, h3, h4⟩
end
theorem rec_one (r : Rc) (A : Option Addr) (n c : Nat) : (rcC r (.slice A n c)).all (·.oneCell') = true := by simp [Value.oneCell']
def MRPost (w : World) (base g : Nat) (e : Ending) (w' : World) : Prop :=
  ∃ (x : Rm), e = .returned (rcV x.r x.sl) ∧ OwnE EP w' (w.heap.size + 1) x.sl x.r.ps ∧ CaOk w' base g ∧ w.grownBy w' (some g) ∧ x.r.ps.length ≤ 11 ∧ nmsOk x.r.ps = true
theorem mr_end {w wr : World} {base g gc n c : Nat} {q : Rc} {A : Option Addr} (h : Mr w wr base g gc q (.slice A n c)) (ho : OwnE EP wr (gc + 1) (.slice A n c) q.ps) (hn : n = q.ps.length) (hl : q.ps.length ≤ 11) (hk : nmsOk q.ps = true) :
    MRPost w base g (.returned (rcV q (.slice A n c))) (wr.setRow w.heap.size (rcC q (.slice A n c))) := by
  subst hn
  have h2 := h.h2
  have h3 := h.h3
  have h4 := h.h4
  exact ⟨⟨q, A, c⟩, rfl, (ho.farRow (fun e => by have := ho.ge _ e; omega) _).low (by omega), (h.src.keep (setRow_other _ _ _ _ (by omega)) (fun i hi => setRow_other _ _ _ _ (by omega))), ⟨h.only.os, h.only.tape, h.only.output, by rw [setRow_size]; exact h.only.size, fun i hi hne => (setRow_other _ _ _ _ (by omega)).trans (h.only.block i hi hne)⟩, hl, hk⟩
set_option maxRecDepth 100000 in
set_option maxHeartbeats 16000000 in
theorem ca_syscall (w : World) (base g : Nat) (ti nn : Int) (h : CaOk w base g) : Calls Tryz.prog 30 #[.pointer (some ⟨g, 0, none⟩), .int .i64 ti, .int .i64 nn] w (MRPost w base g) := by
  have hlt := ca_lt h
  have hbase : base ≤ w.heap.size := by have := h.1; omega
  have HS0 := Lib.hid (h.alloc (.cells (rcC zeroRc (.slice none 0 0)) 63))
  have HO0 := Lib.hid (only_alloc (World.grownBy.refl w (some g)) (.cells (rcC zeroRc (.slice none 0 0)) 63))
  have HZ0 := Lib.hid (Blk.new w (rcC zeroRc (.slice none 0 0)) 63)
  clear h
  go_enter Tryz.func30, Tryz.ntmps30
  go_wp2_with fail
  refine (mrec 1300 ti nn _).mono ?_
  rintro e w1 ⟨rfl, hb⟩
  have hz1 := HZ0.out.below hb
  have hgc := hz1.lt
  have K := Lib.hid (show Mr w (w1.alloc (.cells (rcC ⟨1300, ti, nn, []⟩ (.slice none 0 0)) 63)) base g w1.heap.size ⟨1300, ti, nn, []⟩ (.slice none 0 0) from ⟨only_alloc (only_below HO0.out hb) _, (HS0.out.below hb).alloc _, hz1.alloc _, Blk.new w1 _ _, hgc, hlt, hbase⟩)
  clear hb hz1 hgc HS0 HO0 HZ0
  go_wp2_with fail
  generalize w1.heap.size = gc at *
  refine (ca_outcome _ base g K.out.src).mono ?_
  rintro e wl ⟨s, z, rfl, hss, hs, hg⟩
  have K := Lib.hid (K.out.step hs hg)
  clear hs hg
  go_wp2_with fail
  refine (ca_call _ base g K.out.src).mono ?_
  rintro e wl ⟨x1, rfl, _, hs, hg⟩
  have K := Lib.hid (K.out.step hs hg)
  clear hs hg
  go_wp2_with fail
  refine (mstr _ _ _).mono ?_
  rintro e wl ⟨rfl, hb⟩
  have K := Lib.hid (K.out.below hb)
  clear hb
  go_wp2_with fail
  refine (mstr _ _ _).mono ?_
  rintro e wl ⟨rfl, hb⟩
  have K := Lib.hid (K.out.below hb)
  clear hb
  go_wp2_with fail
  refine (mnum _ _ _).mono ?_
  rintro e wl ⟨rfl, hb⟩
  have K := Lib.hid (K.out.below hb)
  clear hb
  go_wp2_with fail
  refine (ca_process _ base g K.out.src).mono ?_
  rintro e wl ⟨x2, rfl, hs, hg⟩
  have K := Lib.hid (K.out.step hs hg)
  clear hs hg
  go_wp2_with fail
  refine (mnum _ _ _).mono ?_
  rintro e wl ⟨rfl, hb⟩
  have K := Lib.hid (K.out.below hb)
  clear hb
  go_wp2_with fail
  refine (ca_int _ base g 3 K.out.src (by omega) (by omega)).mono ?_
  rintro e wl ⟨x3, rfl, _, _, hs, hg⟩
  have K := Lib.hid (K.out.step hs hg)
  clear hs hg
  go_wp2_with fail
  refine (mnum _ _ _).mono ?_
  rintro e wl ⟨rfl, hb⟩
  have K := Lib.hid (K.out.below hb)
  clear hb
  go_wp2_with fail
  refine (ca_process _ base g K.out.src).mono ?_
  rintro e wl ⟨x4, rfl, hs, hg⟩
  have K := Lib.hid (K.out.step hs hg)
  clear hs hg
  go_wp2_with fail
  refine (mnum _ _ _).mono ?_
  rintro e wl ⟨rfl, hb⟩
  have K := Lib.hid (K.out.below hb)
  clear hb
  go_wp2_with fail
  refine (ca_ids _ base g K.out.src).mono ?_
  rintro e wl ⟨x5, rfl, hs, hg⟩
  have K := Lib.hid (K.out.step hs hg)
  clear hs hg
  go_wp2_with fail
  refine (mnum _ _ _).mono ?_
  rintro e wl ⟨rfl, hb⟩
  have K := Lib.hid (K.out.below hb)
  clear hb
  go_wp2_with fail
  refine (ca_ids _ base g K.out.src).mono ?_
  rintro e wl ⟨x6, rfl, hs, hg⟩
  have K := Lib.hid (K.out.step hs hg)
  clear hs hg
  go_wp2_with fail
  refine (mnum _ _ _).mono ?_
  rintro e wl ⟨rfl, hb⟩
  have K := Lib.hid (K.out.below hb)
  clear hb
  go_wp2_with fail
  refine (ca_session _ base g K.out.src).mono ?_
  rintro e wl ⟨x7, rfl, hs, hg⟩
  have K := Lib.hid (K.out.step hs hg)
  clear hs hg
  go_wp2_with fail
  refine (mnum _ _ _).mono ?_
  rintro e wl ⟨rfl, hb⟩
  have K := Lib.hid (K.out.below hb)
  clear hb
  go_wp2_with fail
  refine (ca_text _ base g K.out.src).mono ?_
  rintro e wl ⟨x8, rfl, _, hs, hg⟩
  have K := Lib.hid (K.out.step hs hg)
  clear hs hg
  go_wp2_with fail
  refine (mstr _ _ _).mono ?_
  rintro e wl ⟨rfl, hb⟩
  have K := Lib.hid (K.out.below hb)
  clear hb
  have c3 := (K.out.alloc (.cells #[.string ⟨#[99, 97, 108, 108]⟩, .int .i64 2, .int .i64 0, .string x1, .string ⟨#[115, 117, 99, 99, 101, 115, 115]⟩, .int .i64 2, .int .i64 0, .string s, .string ⟨#[101, 120, 105, 116]⟩, .int .i64 1, .int .i64 z, .string ⟨#[]⟩, .string ⟨#[97, 48]⟩, .int .i64 1, .int .i64 x2, .string ⟨#[]⟩, .string ⟨#[97, 49]⟩, .int .i64 1, .int .i64 x3, .string ⟨#[]⟩, .string ⟨#[112, 105, 100]⟩, .int .i64 1, .int .i64 x4, .string ⟨#[]⟩, .string ⟨#[97, 117, 105, 100]⟩, .int .i64 1, .int .i64 x5, .string ⟨#[]⟩, .string ⟨#[117, 105, 100]⟩, .int .i64 1, .int .i64 x6, .string ⟨#[]⟩, .string ⟨#[115, 101, 115]⟩, .int .i64 1, .int .i64 x7, .string ⟨#[]⟩, .string ⟨#[99, 111, 109, 109]⟩, .int .i64 2, .int .i64 0, .string x8] 58)).cb.cell 3
  have f3 := (K.out.alloc (.cells #[.string ⟨#[99, 97, 108, 108]⟩, .int .i64 2, .int .i64 0, .string x1, .string ⟨#[115, 117, 99, 99, 101, 115, 115]⟩, .int .i64 2, .int .i64 0, .string s, .string ⟨#[101, 120, 105, 116]⟩, .int .i64 1, .int .i64 z, .string ⟨#[]⟩, .string ⟨#[97, 48]⟩, .int .i64 1, .int .i64 x2, .string ⟨#[]⟩, .string ⟨#[97, 49]⟩, .int .i64 1, .int .i64 x3, .string ⟨#[]⟩, .string ⟨#[112, 105, 100]⟩, .int .i64 1, .int .i64 x4, .string ⟨#[]⟩, .string ⟨#[97, 117, 105, 100]⟩, .int .i64 1, .int .i64 x5, .string ⟨#[]⟩, .string ⟨#[117, 105, 100]⟩, .int .i64 1, .int .i64 x6, .string ⟨#[]⟩, .string ⟨#[115, 101, 115]⟩, .int .i64 1, .int .i64 x7, .string ⟨#[]⟩, .string ⟨#[99, 111, 109, 109]⟩, .int .i64 2, .int .i64 0, .string x8] 58)).cb.free 3
  have hgl := K.out.cb.lt
  have hse : (wl.setCell ⟨gc, 3, none⟩ (.slice (some ⟨wl.heap.size, 0, none⟩) 10 10)).heap.size = wl.heap.size := by simp [World.setCell]
  have o1 := OwnE.made EP (wl.setCell ⟨gc, 3, none⟩ (.slice (some ⟨wl.heap.size, 0, none⟩) 10 10)) #[.string ⟨#[99, 97, 108, 108]⟩, .int .i64 2, .int .i64 0, .string x1, .string ⟨#[115, 117, 99, 99, 101, 115, 115]⟩, .int .i64 2, .int .i64 0, .string s, .string ⟨#[101, 120, 105, 116]⟩, .int .i64 1, .int .i64 z, .string ⟨#[]⟩, .string ⟨#[97, 48]⟩, .int .i64 1, .int .i64 x2, .string ⟨#[]⟩, .string ⟨#[97, 49]⟩, .int .i64 1, .int .i64 x3, .string ⟨#[]⟩, .string ⟨#[112, 105, 100]⟩, .int .i64 1, .int .i64 x4, .string ⟨#[]⟩, .string ⟨#[97, 117, 105, 100]⟩, .int .i64 1, .int .i64 x5, .string ⟨#[]⟩, .string ⟨#[117, 105, 100]⟩, .int .i64 1, .int .i64 x6, .string ⟨#[]⟩, .string ⟨#[115, 101, 115]⟩, .int .i64 1, .int .i64 x7, .string ⟨#[]⟩, .string ⟨#[99, 111, 109, 109]⟩, .int .i64 2, .int .i64 0, .string x8] [⟨⟨#[99, 97, 108, 108]⟩, 2, 0, x1⟩, ⟨⟨#[115, 117, 99, 99, 101, 115, 115]⟩, 2, 0, s⟩, ⟨⟨#[101, 120, 105, 116]⟩, 1, z, ⟨#[]⟩⟩, ⟨⟨#[97, 48]⟩, 1, x2, ⟨#[]⟩⟩, ⟨⟨#[97, 49]⟩, 1, x3, ⟨#[]⟩⟩, ⟨⟨#[112, 105, 100]⟩, 1, x4, ⟨#[]⟩⟩, ⟨⟨#[97, 117, 105, 100]⟩, 1, x5, ⟨#[]⟩⟩, ⟨⟨#[117, 105, 100]⟩, 1, x6, ⟨#[]⟩⟩, ⟨⟨#[115, 101, 115]⟩, 1, x7, ⟨#[]⟩⟩, ⟨⟨#[99, 111, 109, 109]⟩, 2, 0, x8⟩] rfl (base := gc + 1) (by rw [hse]; omega) (by show 10 ≤ 1000; omega) (n := 10) rfl
  rw [hse] at o1
  have O1 := Lib.hid (show OwnE EP ((wl.setCell ⟨gc, 3, none⟩ (.slice (some ⟨wl.heap.size, 0, none⟩) 10 10)).alloc (.cells #[.string ⟨#[99, 97, 108, 108]⟩, .int .i64 2, .int .i64 0, .string x1, .string ⟨#[115, 117, 99, 99, 101, 115, 115]⟩, .int .i64 2, .int .i64 0, .string s, .string ⟨#[101, 120, 105, 116]⟩, .int .i64 1, .int .i64 z, .string ⟨#[]⟩, .string ⟨#[97, 48]⟩, .int .i64 1, .int .i64 x2, .string ⟨#[]⟩, .string ⟨#[97, 49]⟩, .int .i64 1, .int .i64 x3, .string ⟨#[]⟩, .string ⟨#[112, 105, 100]⟩, .int .i64 1, .int .i64 x4, .string ⟨#[]⟩, .string ⟨#[97, 117, 105, 100]⟩, .int .i64 1, .int .i64 x5, .string ⟨#[]⟩, .string ⟨#[117, 105, 100]⟩, .int .i64 1, .int .i64 x6, .string ⟨#[]⟩, .string ⟨#[115, 101, 115]⟩, .int .i64 1, .int .i64 x7, .string ⟨#[]⟩, .string ⟨#[99, 111, 109, 109]⟩, .int .i64 2, .int .i64 0, .string x8] 58)) (gc + 1) (.slice (some ⟨wl.heap.size, 0, none⟩) 10 10) [⟨⟨#[99, 97, 108, 108]⟩, 2, 0, x1⟩, ⟨⟨#[115, 117, 99, 99, 101, 115, 115]⟩, 2, 0, s⟩, ⟨⟨#[101, 120, 105, 116]⟩, 1, z, ⟨#[]⟩⟩, ⟨⟨#[97, 48]⟩, 1, x2, ⟨#[]⟩⟩, ⟨⟨#[97, 49]⟩, 1, x3, ⟨#[]⟩⟩, ⟨⟨#[112, 105, 100]⟩, 1, x4, ⟨#[]⟩⟩, ⟨⟨#[97, 117, 105, 100]⟩, 1, x5, ⟨#[]⟩⟩, ⟨⟨#[117, 105, 100]⟩, 1, x6, ⟨#[]⟩⟩, ⟨⟨#[115, 101, 115]⟩, 1, x7, ⟨#[]⟩⟩, ⟨⟨#[99, 111, 109, 109]⟩, 2, 0, x8⟩] from o1)
  have K1 := Lib.hid ((K.out.put (.slice (some ⟨wl.heap.size, 0, none⟩) 10 10) [⟨⟨#[99, 97, 108, 108]⟩, 2, 0, x1⟩, ⟨⟨#[115, 117, 99, 99, 101, 115, 115]⟩, 2, 0, s⟩, ⟨⟨#[101, 120, 105, 116]⟩, 1, z, ⟨#[]⟩⟩, ⟨⟨#[97, 48]⟩, 1, x2, ⟨#[]⟩⟩, ⟨⟨#[97, 49]⟩, 1, x3, ⟨#[]⟩⟩, ⟨⟨#[112, 105, 100]⟩, 1, x4, ⟨#[]⟩⟩, ⟨⟨#[97, 117, 105, 100]⟩, 1, x5, ⟨#[]⟩⟩, ⟨⟨#[117, 105, 100]⟩, 1, x6, ⟨#[]⟩⟩, ⟨⟨#[115, 101, 115]⟩, 1, x7, ⟨#[]⟩⟩, ⟨⟨#[99, 111, 109, 109]⟩, 2, 0, x8⟩]).alloc (.cells #[.string ⟨#[99, 97, 108, 108]⟩, .int .i64 2, .int .i64 0, .string x1, .string ⟨#[115, 117, 99, 99, 101, 115, 115]⟩, .int .i64 2, .int .i64 0, .string s, .string ⟨#[101, 120, 105, 116]⟩, .int .i64 1, .int .i64 z, .string ⟨#[]⟩, .string ⟨#[97, 48]⟩, .int .i64 1, .int .i64 x2, .string ⟨#[]⟩, .string ⟨#[97, 49]⟩, .int .i64 1, .int .i64 x3, .string ⟨#[]⟩, .string ⟨#[112, 105, 100]⟩, .int .i64 1, .int .i64 x4, .string ⟨#[]⟩, .string ⟨#[97, 117, 105, 100]⟩, .int .i64 1, .int .i64 x5, .string ⟨#[]⟩, .string ⟨#[117, 105, 100]⟩, .int .i64 1, .int .i64 x6, .string ⟨#[]⟩, .string ⟨#[115, 101, 115]⟩, .int .i64 1, .int .i64 x7, .string ⟨#[]⟩, .string ⟨#[99, 111, 109, 109]⟩, .int .i64 2, .int .i64 0, .string x8] 58))
  clear o1 hse
  clear K
  go_wp2_with fail
  clear c3 f3
  generalize hG : (wl.setCell ⟨gc, 3, none⟩ (.slice (some ⟨wl.heap.size, 0, none⟩) 10 10)).alloc (.cells #[.string ⟨#[99, 97, 108, 108]⟩, .int .i64 2, .int .i64 0, .string x1, .string ⟨#[115, 117, 99, 99, 101, 115, 115]⟩, .int .i64 2, .int .i64 0, .string s, .string ⟨#[101, 120, 105, 116]⟩, .int .i64 1, .int .i64 z, .string ⟨#[]⟩, .string ⟨#[97, 48]⟩, .int .i64 1, .int .i64 x2, .string ⟨#[]⟩, .string ⟨#[97, 49]⟩, .int .i64 1, .int .i64 x3, .string ⟨#[]⟩, .string ⟨#[112, 105, 100]⟩, .int .i64 1, .int .i64 x4, .string ⟨#[]⟩, .string ⟨#[97, 117, 105, 100]⟩, .int .i64 1, .int .i64 x5, .string ⟨#[]⟩, .string ⟨#[117, 105, 100]⟩, .int .i64 1, .int .i64 x6, .string ⟨#[]⟩, .string ⟨#[115, 101, 115]⟩, .int .i64 1, .int .i64 x7, .string ⟨#[]⟩, .string ⟨#[99, 111, 109, 109]⟩, .int .i64 2, .int .i64 0, .string x8] 58) = w5 at *
  clear hG
  refine (ca_bool _ base g 3 K1.out.src (by omega) (by omega)).mono ?_
  rintro e w6 ⟨b1, rfl, hs, hg⟩
  have ST := Lib.hid (K1.out.step hs hg)
  have OW := Lib.hid (O1.out.far hg (fun k hk e => by injection e with e; have := O1.out.ge k hk; have := K1.out.h2; have := K1.out.h3; omega))
  clear hs hg K1 O1
  generalize hps : ([⟨⟨#[99, 97, 108, 108]⟩, 2, 0, x1⟩, ⟨⟨#[115, 117, 99, 99, 101, 115, 115]⟩, 2, 0, s⟩, ⟨⟨#[101, 120, 105, 116]⟩, 1, z, ⟨#[]⟩⟩, ⟨⟨#[97, 48]⟩, 1, x2, ⟨#[]⟩⟩, ⟨⟨#[97, 49]⟩, 1, x3, ⟨#[]⟩⟩, ⟨⟨#[112, 105, 100]⟩, 1, x4, ⟨#[]⟩⟩, ⟨⟨#[97, 117, 105, 100]⟩, 1, x5, ⟨#[]⟩⟩, ⟨⟨#[117, 105, 100]⟩, 1, x6, ⟨#[]⟩⟩, ⟨⟨#[115, 101, 115]⟩, 1, x7, ⟨#[]⟩⟩, ⟨⟨#[99, 111, 109, 109]⟩, 2, 0, x8⟩] : List Pr) = L0 at *
  have hl0 : L0.length = 10 := by rw [← hps]; rfl
  have HK0 := Lib.hid (show nmsOk L0 = true by rw [← hps]; exact (by unfold nmsOk; simp only [List.all_cons, List.all_nil, Bool.and_true, Bool.and_eq_true, decide_eq_true_eq]; exact ⟨⟨rfl, by first | assumption | decide⟩, ⟨rfl, by first | assumption | decide⟩, ⟨rfl, by first | assumption | decide⟩, ⟨rfl, by first | assumption | decide⟩, ⟨rfl, by first | assumption | decide⟩, ⟨rfl, by first | assumption | decide⟩, ⟨rfl, by first | assumption | decide⟩, ⟨rfl, by first | assumption | decide⟩, ⟨rfl, by first | assumption | decide⟩, ⟨rfl, by first | assumption | decide⟩⟩))
  clear hps
  generalize htv : (Value.slice (some ⟨wl.heap.size, 0, none⟩) 10 10) = tv at *
  clear htv
  go_upto_if 49 with (fail)
  go_cut [] (fun wx => ∃ r A n c, Mr w wx base g gc r (.slice A n c) ∧ OwnE EP wx (gc + 1) (.slice A n c) r.ps ∧ n = r.ps.length ∧ r.ps.length ≤ 11 ∧ nmsOk r.ps = true)
  case first =>
    cases b1
    case false =>
      obtain ⟨A, c, e, _⟩ := OW.out.at
      have sx := ST.out
      have ox := OW.out
      rw [e] at sx ox
      have SX := Lib.hid sx
      have OX := Lib.hid ox
      clear e sx ox ST OW
      go_wp2_with fail
      go_meet
      exact ⟨_, A, _, c, SX.out, OX.out, rfl, by show L0.length ≤ 11; omega, HK0.out⟩
    case true =>
      have hst := ST.out
      have how := OW.out
      clear ST OW
      have q3 := hst.cb.cell 3
      have hgc := hst.cb.lt
      go_wp2_with fail
      go_region_law
        (first
          | (go_simp; go_at_call 50; refine (mnull _ _ _).mono ?_; rintro e w13 ⟨rfl, hb3⟩; have st3 := hst.drew.below hb3; have ow3 := OwnE.below (w := w6.drew) (by exact how) hb3; have qA := st3.cb.cell 3; have qC := (st3.alloc (.cells #[.string ⟨#[107, 101, 121]⟩, .int .i64 3, .int .i64 0, .string ⟨#[]⟩] 58)).cb.cell 3; go_simp)
          | (refine step_append_el EP (by rfl) (.tmp 51) (.tmp 54) (by rfl) (gc + 1) tv L0 (by rfl) (by exact ow3.alloc _) (w13.heap.size + 1) (some ⟨w13.heap.size, 0, none⟩) 1 1 [⟨⟨#[107, 101, 121]⟩, 3, 0, ⟨#[]⟩⟩] (by rfl) (by rfl) (by exact row_newE EP w13 #[.string ⟨#[107, 101, 121]⟩, .int .i64 3, .int .i64 0, .string ⟨#[]⟩] 58 ⟨⟨#[107, 101, 121]⟩, 3, 0, ⟨#[]⟩⟩ rfl (by omega)) (by simp; omega) (by have := st3.cb.lt; simp; omega) ?_; intro v4 w4 own4 hg4 hat4; obtain ⟨g4, c4, hv4⟩ := Joins.ownsRow_form own4 (by simp); subst hv4; have stf := (st3.alloc (.cells #[.string ⟨#[107, 101, 121]⟩, .int .i64 3, .int .i64 0, .string ⟨#[]⟩] 58)).far hg4 (fun k hk => by have := how.ge k hk; omega); have cb4 := stf.cb; have st4 := stf.put (.slice (some ⟨g4, 0, none⟩) (L0 ++ [(⟨⟨#[107, 101, 121]⟩, 3, 0, ⟨#[]⟩⟩ : Pr)]).length c4) (L0 ++ [(⟨⟨#[107, 101, 121]⟩, 3, 0, ⟨#[]⟩⟩ : Pr)]); have qB := cb4.cell 3; have fB := cb4.free 3))
      all_goals
        simp only [List.length_append, List.length_cons, List.length_nil, Nat.zero_add, hl0, Nat.reduceAdd] at st4 own4
        have e1 : (L0 ++ [(⟨⟨#[107, 101, 121]⟩, 3, 0, ⟨#[]⟩⟩ : Pr)]).length = 11 := by simp [hl0]
        have own5 := own4.farCell (g := gc) (i := 3) (fun e => by have := own4.ge _ e; omega) (.slice (some ⟨g4, 0, none⟩) 11 c4)
        have HK1 := Lib.hid (nmsOk_app HK0.out (show nmsOk [(⟨⟨#[107, 101, 121]⟩, 3, 0, ⟨#[]⟩⟩ : Pr)] = true from rfl))
        have ST4 := Lib.hid st4
        have OW4 := Lib.hid own5
        have HE1 := Lib.hid e1
        clear q3 qA qB qC fB cb4 own4 own5 st3 st4 stf hst how ow3 hb3 hg4 hat4 e1
        go_wp2_with fail
        go_meet
        exact ⟨_, _, _, _, ST4.out, OW4.out, HE1.out.symm, by show (L0 ++ [(⟨⟨#[107, 101, 121]⟩, 3, 0, ⟨#[]⟩⟩ : Pr)]).length ≤ 11; rw [HE1.out]; omega, HK1.out⟩
  case rest =>
  obtain ⟨q, A, n, c', st, ow, hn, hl, hk⟩ := hcut
  have ST := Lib.hid st
  have OW := Lib.hid ow
  have HN := Lib.hid hn
  have HL := Lib.hid hl
  have HK := Lib.hid hk
  clear st ow hn hl hk K
  go_wp2_with fail
  refine (ca_bool _ base g 9 ST.out.src (by omega) (by omega)).mono ?_
  rintro e w7 ⟨b2, rfl, hs, hg⟩
  have ST7 := Lib.hid (ST.out.step hs hg)
  have OW7 := Lib.hid (OW.out.far hg (fun k hk e => by injection e with e; have := OW.out.ge k hk; have := ST.out.h2; have := ST.out.h3; omega))
  clear hs hg ST OW
  go_upto_if 58 with (fail)
  go_cut [] (fun wx => ∃ r A n c, Mr w wx base g gc r (.slice A n c) ∧ OwnE EP wx (gc + 1) (.slice A n c) r.ps ∧ n = r.ps.length ∧ r.ps.length ≤ 11 ∧ nmsOk r.ps = true)
  case first =>
    cases b2
    case false =>
      go_wp2_with fail
      go_meet
      exact ⟨_, _, _, _, ST7.out, OW7.out, HN.out, HL.out, HK.out⟩
    case true =>
      have hst := ST7.out
      have how := OW7.out
      have hn11 : n ≤ 11 := by have := HN.out; have := HL.out; omega
      clear ST7 OW7
      have q3 := hst.cb.cell 3
      have hgc := hst.cb.lt
      have wn : IntKind.i64.wrap ((n : Int) + 1) = (n : Int) + 1 := IntWalk.i64_in _ (by omega)
      have hcap : n ≤ c' := by rcases how.2 with ⟨e, h0⟩ | ⟨g0, cap, cur, e, _, _, h3, _⟩ <;> (injection e with e1 e2 e3; omega)
      go_wp2_with fail
      refine wp_region_held_drew (S := (fun w' => gc < w'.heap.size)) (by kernel_rfl) (by exact hgc) (fun hHeld => ?_)
      have qd : w7.drew.cell? ⟨gc, 3, none⟩ = some (.slice A n c') := q3
      refine wpAnyH_take (i := 0) (v := ?_) rfl (by kernel_rfl) (by kernel_rfl) (by kernel_rfl) (fun _ _ _ h => h) (Or.inl ⟨by kernel_rfl, ?_⟩) hHeld ?_
      rotate_left
      · intro w hSw
        go_simp
        first | (with_reducible rfl) | (rw [if_neg (by first | omega | (simp; omega))])
      refine wpAnyH_take (i := 2) (v := ?_) rfl (by kernel_rfl) (by kernel_rfl) (by kernel_rfl) (fun _ _ _ h => h) (Or.inl ⟨by kernel_rfl, ?_⟩) hHeld ?_
      rotate_left
      · intro w hSw
        go_simp
        first | (with_reducible rfl) | (rw [if_neg (by first | omega | (simp; omega))])
      refine wpAnyH_take (i := 3) (v := ?_) rfl (by kernel_rfl) (by kernel_rfl) (by kernel_rfl) (fun _ _ _ h => h) (Or.inl ⟨by kernel_rfl, ?_⟩) hHeld ?_
      rotate_left
      · intro w hSw
        go_simp
        first | (with_reducible rfl) | (rw [if_neg (by first | omega | (simp; omega))])
      refine wpAnyH_ready (rs := [1, 4]) (by kernel_rfl) (by simp) ?_
      refine AllReadyH.cons rfl (fun K hK => ?_) (AllReadyH.cons rfl (fun K hK => ?_) AllReadyH.nil)
      · go_simp
        refine hK.out _ _ hHeld (fun hHeld => ?_)
        clear hK K
        refine wpAnyH_ready (rs := [4]) (by kernel_rfl) (by simp) ?_
        refine AllReadyH.cons rfl (fun K hK => ?_) AllReadyH.nil
        go_simp
        refine hK.out _ _ hHeld (fun hHeld => ?_)
        clear hK K
        refine wpAnyH_take (i := 5) (v := ?_) rfl (by kernel_rfl) (by kernel_rfl) (by kernel_rfl) (fun _ _ _ h => h) (Or.inl ⟨by kernel_rfl, ?_⟩) hHeld ?_
        rotate_left
        · intro w hSw
          go_simp
          first | (with_reducible rfl) | (rw [if_neg (by first | omega | (simp; omega))])
        refine wpAnyH_take (i := 6) (v := ?_) rfl (by kernel_rfl) (by kernel_rfl) (by kernel_rfl) (fun _ _ _ h => h) (Or.inl ⟨by kernel_rfl, ?_⟩) hHeld ?_
        rotate_left
        · intro w hSw
          go_simp
          first | (with_reducible rfl) | (rw [if_neg (by first | omega | (simp; omega))])
        refine wpAnyH_ready (rs := [7]) (by kernel_rfl) (by simp) ?_
        refine AllReadyH.cons rfl (fun K hK => ?_) AllReadyH.nil
        go_simp
        go_at_call 14
        refine (ca_int _ base g ((n : Int) + 1) (by exact hst.drew.src) (by omega) (by omega)).mono ?_
        rintro e w13 ⟨x, rfl, hx0, hx1, hs3, hg3⟩
        obtain ⟨kx, rfl⟩ := Int.eq_ofNat_of_zero_le hx0
        have st3 := Mr.step (wr := w7.drew) (by exact hst.drew) hs3 hg3
        have ow3 := OwnE.far (w := w7.drew) (by exact how) hg3 (fun k hk e => by injection e with e; have := how.ge k hk; have := hst.h2; have := hst.h3; omega)
        have qA := st3.cb.cell 3
        have fA := st3.cb.free 3
        have k1 : kx ≤ n := by omega
        have k2 : kx ≤ c' := by omega
        have k3 : (kx : Int) ≤ (c' : Int) := by omega
        have k4 : (0 : Int) ≤ (kx : Int) := by omega
        have hh := st3.cb.lt
        go_simp
        refine hK.out _ _ hh (fun hHeld => ?_)
        clear hK K
        refine wpAnyH_ready (rs := [8]) (by kernel_rfl) (by simp) ?_
        refine AllReadyH.cons rfl (fun K hK => ?_) AllReadyH.nil
        go_simp
        refine hK.out _ _ hHeld (fun hHeld => ?_)
        clear hK K
        refine wpAnyH_take (i := 9) (v := ?_) rfl (by kernel_rfl) (by kernel_rfl) (by kernel_rfl) (fun _ _ _ h => h) (Or.inl ⟨by kernel_rfl, ?_⟩) hHeld ?_
        rotate_left
        · intro w hSw
          go_simp
          first | (with_reducible rfl) | (rw [if_neg (by first | omega | (simp; omega))])
        refine wpAnyH_ready (rs := [10]) (by kernel_rfl) (by simp) ?_
        refine AllReadyH.cons rfl (fun K hK => ?_) AllReadyH.nil
        have hh2 : gc < (w13.setCell ⟨gc, 3, none⟩ (.slice A kx c')).heap.size := by simpa [World.setCell] using hh
        go_simp
        refine hK.out _ _ hh2 (fun hHeld => ?_)
        clear hK K
        refine wpAnyH_done (by kernel_rfl) ?_ _
        have t3 := ow3.take kx (by have := HN.out; omega)
        have o6 := t3.farCell (g := gc) (i := 3) (fun e => by have := t3.ge _ e; omega) (.slice A kx c')
        have s6 := st3.put (.slice A kx c') (q.ps.take kx)
        have S6 := Lib.hid s6
        have O6 := Lib.hid o6
        have H6 := Lib.hid (show (q.ps.take kx).length = kx by rw [List.length_take]; have := HN.out; omega)
        have HK6 := Lib.hid (nmsOk_take HK.out kx)
        have L6 := Lib.hid (show kx ≤ 11 by omega)
        clear o6 s6 t3 qA fA st3 ow3 hh hh2 hst how q3 qd
        go_wp2_with fail
        go_meet
        exact ⟨_, _, _, _, S6.out, O6.out, H6.out.symm, by show (q.ps.take kx).length ≤ 11; rw [H6.out]; exact L6.out, HK6.out⟩
      · go_simp
        refine hK.out _ _ hHeld (fun hHeld => ?_)
        clear hK K
        refine wpAnyH_take (i := 5) (v := ?_) rfl (by kernel_rfl) (by kernel_rfl) (by kernel_rfl) (fun _ _ _ h => h) (Or.inl ⟨by kernel_rfl, ?_⟩) hHeld ?_
        rotate_left
        · intro w hSw
          go_simp
          first | (with_reducible rfl) | (rw [if_neg (by first | omega | (simp; omega))])
        refine wpAnyH_take (i := 6) (v := ?_) rfl (by kernel_rfl) (by kernel_rfl) (by kernel_rfl) (fun _ _ _ h => h) (Or.inl ⟨by kernel_rfl, ?_⟩) hHeld ?_
        rotate_left
        · intro w hSw
          go_simp
          first | (with_reducible rfl) | (rw [if_neg (by first | omega | (simp; omega))])
        refine wpAnyH_ready (rs := [1, 7]) (by kernel_rfl) (by simp) ?_
        refine AllReadyH.cons rfl (fun K hK => ?_) (AllReadyH.cons rfl (fun K hK => ?_) AllReadyH.nil)
        · go_simp
          refine hK.out _ _ hHeld (fun hHeld => ?_)
          clear hK K
          refine wpAnyH_ready (rs := [7]) (by kernel_rfl) (by simp) ?_
          refine AllReadyH.cons rfl (fun K hK => ?_) AllReadyH.nil
          go_simp
          go_at_call 14
          refine (ca_int _ base g ((n : Int) + 1) (by exact hst.drew.src) (by omega) (by omega)).mono ?_
          rintro e w13 ⟨x, rfl, hx0, hx1, hs3, hg3⟩
          obtain ⟨kx, rfl⟩ := Int.eq_ofNat_of_zero_le hx0
          have st3 := Mr.step (wr := w7.drew) (by exact hst.drew) hs3 hg3
          have ow3 := OwnE.far (w := w7.drew) (by exact how) hg3 (fun k hk e => by injection e with e; have := how.ge k hk; have := hst.h2; have := hst.h3; omega)
          have qA := st3.cb.cell 3
          have fA := st3.cb.free 3
          have k1 : kx ≤ n := by omega
          have k2 : kx ≤ c' := by omega
          have k3 : (kx : Int) ≤ (c' : Int) := by omega
          have k4 : (0 : Int) ≤ (kx : Int) := by omega
          have hh := st3.cb.lt
          go_simp
          refine hK.out _ _ hh (fun hHeld => ?_)
          clear hK K
          refine wpAnyH_ready (rs := [8]) (by kernel_rfl) (by simp) ?_
          refine AllReadyH.cons rfl (fun K hK => ?_) AllReadyH.nil
          go_simp
          refine hK.out _ _ hHeld (fun hHeld => ?_)
          clear hK K
          refine wpAnyH_take (i := 9) (v := ?_) rfl (by kernel_rfl) (by kernel_rfl) (by kernel_rfl) (fun _ _ _ h => h) (Or.inl ⟨by kernel_rfl, ?_⟩) hHeld ?_
          rotate_left
          · intro w hSw
            go_simp
            first | (with_reducible rfl) | (rw [if_neg (by first | omega | (simp; omega))])
          refine wpAnyH_ready (rs := [10]) (by kernel_rfl) (by simp) ?_
          refine AllReadyH.cons rfl (fun K hK => ?_) AllReadyH.nil
          have hh2 : gc < (w13.setCell ⟨gc, 3, none⟩ (.slice A kx c')).heap.size := by simpa [World.setCell] using hh
          go_simp
          refine hK.out _ _ hh2 (fun hHeld => ?_)
          clear hK K
          refine wpAnyH_done (by kernel_rfl) ?_ _
          have t3 := ow3.take kx (by have := HN.out; omega)
          have o6 := t3.farCell (g := gc) (i := 3) (fun e => by have := t3.ge _ e; omega) (.slice A kx c')
          have s6 := st3.put (.slice A kx c') (q.ps.take kx)
          have S6 := Lib.hid s6
          have O6 := Lib.hid o6
          have H6 := Lib.hid (show (q.ps.take kx).length = kx by rw [List.length_take]; have := HN.out; omega)
          have HK6 := Lib.hid (nmsOk_take HK.out kx)
          have L6 := Lib.hid (show kx ≤ 11 by omega)
          clear o6 s6 t3 qA fA st3 ow3 hh hh2 hst how q3 qd
          go_wp2_with fail
          go_meet
          exact ⟨_, _, _, _, S6.out, O6.out, H6.out.symm, by show (q.ps.take kx).length ≤ 11; rw [H6.out]; exact L6.out, HK6.out⟩
        · go_simp
          go_at_call 14
          refine (ca_int _ base g ((n : Int) + 1) (by exact hst.drew.src) (by omega) (by omega)).mono ?_
          rintro e w13 ⟨x, rfl, hx0, hx1, hs3, hg3⟩
          obtain ⟨kx, rfl⟩ := Int.eq_ofNat_of_zero_le hx0
          have st3 := Mr.step (wr := w7.drew) (by exact hst.drew) hs3 hg3
          have ow3 := OwnE.far (w := w7.drew) (by exact how) hg3 (fun k hk e => by injection e with e; have := how.ge k hk; have := hst.h2; have := hst.h3; omega)
          have qA := st3.cb.cell 3
          have fA := st3.cb.free 3
          have k1 : kx ≤ n := by omega
          have k2 : kx ≤ c' := by omega
          have k3 : (kx : Int) ≤ (c' : Int) := by omega
          have k4 : (0 : Int) ≤ (kx : Int) := by omega
          have hh := st3.cb.lt
          go_simp
          refine hK.out _ _ hh (fun hHeld => ?_)
          clear hK K
          refine wpAnyH_ready (rs := [1]) (by kernel_rfl) (by simp) ?_
          refine AllReadyH.cons rfl (fun K hK => ?_) AllReadyH.nil
          go_simp
          refine hK.out _ _ hHeld (fun hHeld => ?_)
          clear hK K
          refine wpAnyH_ready (rs := [8]) (by kernel_rfl) (by simp) ?_
          refine AllReadyH.cons rfl (fun K hK => ?_) AllReadyH.nil
          go_simp
          refine hK.out _ _ hHeld (fun hHeld => ?_)
          clear hK K
          refine wpAnyH_take (i := 9) (v := ?_) rfl (by kernel_rfl) (by kernel_rfl) (by kernel_rfl) (fun _ _ _ h => h) (Or.inl ⟨by kernel_rfl, ?_⟩) hHeld ?_
          rotate_left
          · intro w hSw
            go_simp
            first | (with_reducible rfl) | (rw [if_neg (by first | omega | (simp; omega))])
          refine wpAnyH_ready (rs := [10]) (by kernel_rfl) (by simp) ?_
          refine AllReadyH.cons rfl (fun K hK => ?_) AllReadyH.nil
          have hh2 : gc < (w13.setCell ⟨gc, 3, none⟩ (.slice A kx c')).heap.size := by simpa [World.setCell] using hh
          go_simp
          refine hK.out _ _ hh2 (fun hHeld => ?_)
          clear hK K
          refine wpAnyH_done (by kernel_rfl) ?_ _
          have t3 := ow3.take kx (by have := HN.out; omega)
          have o6 := t3.farCell (g := gc) (i := 3) (fun e => by have := t3.ge _ e; omega) (.slice A kx c')
          have s6 := st3.put (.slice A kx c') (q.ps.take kx)
          have S6 := Lib.hid s6
          have O6 := Lib.hid o6
          have H6 := Lib.hid (show (q.ps.take kx).length = kx by rw [List.length_take]; have := HN.out; omega)
          have HK6 := Lib.hid (nmsOk_take HK.out kx)
          have L6 := Lib.hid (show kx ≤ 11 by omega)
          clear o6 s6 t3 qA fA st3 ow3 hh hh2 hst how q3 qd
          go_wp2_with fail
          go_meet
          exact ⟨_, _, _, _, S6.out, O6.out, H6.out.symm, by show (q.ps.take kx).length ≤ 11; rw [H6.out]; exact L6.out, HK6.out⟩
  case rest =>
  obtain ⟨q, A, n, c', st, ow, hn, hl, hk⟩ := hcut
  have ST9 := Lib.hid st
  have OW9 := Lib.hid ow
  have HN9 := Lib.hid hn
  have HL9 := Lib.hid hl
  have HK9 := Lib.hid hk
  clear st ow hn hl hk
  go_wp2_with (first | ((with_reducible refine load_blk ?_ 63 (.tmp 7) ?_ ST9.out.cb ?_ _ Tryz.underlying63 ?_ ?_ ?_); (iterate 4 rfl); exact rc_sz _ _) | ((with_reducible refine store_blk ?_ 63 (.tmp 6) (.tmp 69) ?_ ST9.out.rb (rcC q (.slice A n c')) ?_ ?_ ?_ ?_ ?_ ?_); (iterate 4 rfl); (exact rc_sz _ _); rfl; (exact rec_one _ _ _ _)))
  refine bodyPost_ret (rec_ret6 (fn := Tryz.f30) rfl _ _ w.heap.size q (.slice A n c') rfl (Blk.row ST9.out.rb _)) rfl ?_
  exact mr_end ST9.out OW9.out HN9.out HL9.out HK9.out
set_option maxRecDepth 100000 in
set_option maxHeartbeats 16000000 in
theorem ca_single (w : World) (base g : Nat) (ti nn : Int) (h : CaOk w base g) (hnn : 0 ≤ nn ∧ nn ≤ 100000) : Calls Tryz.prog 29 #[.pointer (some ⟨g, 0, none⟩), .int .i64 ti, .int .i64 nn] w (MRPost w base g) := by
  have hlt := ca_lt h
  have hbase : base ≤ w.heap.size := by have := h.1; omega
  have HS0 := Lib.hid (h.alloc (.cells (rcC zeroRc (.slice none 0 0)) 63))
  have HO0 := Lib.hid (only_alloc (World.grownBy.refl w (some g)) (.cells (rcC zeroRc (.slice none 0 0)) 63))
  have HZ0 := Lib.hid (Blk.new w (rcC zeroRc (.slice none 0 0)) 63)
  clear h
  go_enter Tryz.func29, Tryz.ntmps29
  go_wp2_with fail
  refine (ca_pick _ base g (w.heap.size + 1) 4 [1005, 1305, 1200, 1331] 3 (HS0.out.alloc _) (by have := Blk.new (w.alloc (.cells (rcC zeroRc (.slice none 0 0)) 63)) #[.int .i64 1005, .int .i64 1305, .int .i64 1200, .int .i64 1331] 3; simpa using this) (by omega) rfl (by omega) (by omega)).mono ?_
  rintro e w0 ⟨ty, rfl, _, hs, hg⟩
  have HS1 := Lib.hid hs
  have HO1 := Lib.hid ((only_alloc HO0.out (.cells #[.int .i64 1005, .int .i64 1305, .int .i64 1200, .int .i64 1331] 3)).trans hg)
  have HZ1 := Lib.hid ((HZ0.out.alloc (.cells #[.int .i64 1005, .int .i64 1305, .int .i64 1200, .int .i64 1331] 3)).grown hg (fun e => by injection e with e; omega))
  clear hs hg HS0 HO0 HZ0
  go_wp2_with fail
  refine (mrec ty ti nn _).mono ?_
  rintro e w1 ⟨rfl, hb⟩
  have hz1 := HZ1.out.below hb
  have hgc := hz1.lt
  have K := Lib.hid (show Mr w (w1.alloc (.cells (rcC ⟨ty, ti, nn, []⟩ (.slice none 0 0)) 63)) base g w1.heap.size ⟨ty, ti, nn, []⟩ (.slice none 0 0) from ⟨only_alloc (only_below HO1.out hb) _, (HS1.out.below hb).alloc _, hz1.alloc _, Blk.new w1 _ _, hgc, hlt, hbase⟩)
  clear hb hz1 hgc HS1 HO1 HZ1
  have c0 := K.out.cb.cell 0
  by_cases hty : ty = 1331
  case neg =>
    have t0 : (ty == 1331) = false := by simpa using hty
    clear hty
    go_wp2_with fail
    clear c0
    generalize w1.heap.size = gc at *
    refine (ca_process _ base g K.out.src).mono ?_
    rintro e wl ⟨x1, rfl, hs, hg⟩
    have K := Lib.hid (K.out.step hs hg)
    clear hs hg
    go_wp2_with fail
    refine (mnum _ _ _).mono ?_
    rintro e wl ⟨rfl, hb⟩
    have K := Lib.hid (K.out.below hb)
    clear hb
    go_wp2_with fail
    refine (ca_ids _ base g K.out.src).mono ?_
    rintro e wl ⟨x2, rfl, hs, hg⟩
    have K := Lib.hid (K.out.step hs hg)
    clear hs hg
    go_wp2_with fail
    refine (mnum _ _ _).mono ?_
    rintro e wl ⟨rfl, hb⟩
    have K := Lib.hid (K.out.below hb)
    clear hb
    go_wp2_with fail
    refine (ca_text _ base g K.out.src).mono ?_
    rintro e wl ⟨x3, rfl, _, hs, hg⟩
    have K := Lib.hid (K.out.step hs hg)
    clear hs hg
    go_wp2_with fail
    refine (mstr _ _ _).mono ?_
    rintro e wl ⟨rfl, hb⟩
    have K := Lib.hid (K.out.below hb)
    clear hb
    have c3 := (K.out.alloc (.cells #[.string ⟨#[112, 105, 100]⟩, .int .i64 1, .int .i64 x1, .string ⟨#[]⟩, .string ⟨#[117, 105, 100]⟩, .int .i64 1, .int .i64 x2, .string ⟨#[]⟩, .string ⟨#[109, 115, 103]⟩, .int .i64 2, .int .i64 0, .string x3] 58)).cb.cell 3
    have f3 := (K.out.alloc (.cells #[.string ⟨#[112, 105, 100]⟩, .int .i64 1, .int .i64 x1, .string ⟨#[]⟩, .string ⟨#[117, 105, 100]⟩, .int .i64 1, .int .i64 x2, .string ⟨#[]⟩, .string ⟨#[109, 115, 103]⟩, .int .i64 2, .int .i64 0, .string x3] 58)).cb.free 3
    have hgl := K.out.cb.lt
    have hse : (wl.setCell ⟨gc, 3, none⟩ (.slice (some ⟨wl.heap.size, 0, none⟩) 3 3)).heap.size = wl.heap.size := by simp [World.setCell]
    have o1 := OwnE.made EP (wl.setCell ⟨gc, 3, none⟩ (.slice (some ⟨wl.heap.size, 0, none⟩) 3 3)) #[.string ⟨#[112, 105, 100]⟩, .int .i64 1, .int .i64 x1, .string ⟨#[]⟩, .string ⟨#[117, 105, 100]⟩, .int .i64 1, .int .i64 x2, .string ⟨#[]⟩, .string ⟨#[109, 115, 103]⟩, .int .i64 2, .int .i64 0, .string x3] [⟨⟨#[112, 105, 100]⟩, 1, x1, ⟨#[]⟩⟩, ⟨⟨#[117, 105, 100]⟩, 1, x2, ⟨#[]⟩⟩, ⟨⟨#[109, 115, 103]⟩, 2, 0, x3⟩] rfl (base := gc + 1) (by rw [hse]; omega) (by show 3 ≤ 1000; omega) (n := 3) rfl
    rw [hse] at o1
    have O1 := Lib.hid (show OwnE EP ((wl.setCell ⟨gc, 3, none⟩ (.slice (some ⟨wl.heap.size, 0, none⟩) 3 3)).alloc (.cells #[.string ⟨#[112, 105, 100]⟩, .int .i64 1, .int .i64 x1, .string ⟨#[]⟩, .string ⟨#[117, 105, 100]⟩, .int .i64 1, .int .i64 x2, .string ⟨#[]⟩, .string ⟨#[109, 115, 103]⟩, .int .i64 2, .int .i64 0, .string x3] 58)) (gc + 1) (.slice (some ⟨wl.heap.size, 0, none⟩) 3 3) [⟨⟨#[112, 105, 100]⟩, 1, x1, ⟨#[]⟩⟩, ⟨⟨#[117, 105, 100]⟩, 1, x2, ⟨#[]⟩⟩, ⟨⟨#[109, 115, 103]⟩, 2, 0, x3⟩] from o1)
    have K1 := Lib.hid ((K.out.put (.slice (some ⟨wl.heap.size, 0, none⟩) 3 3) [⟨⟨#[112, 105, 100]⟩, 1, x1, ⟨#[]⟩⟩, ⟨⟨#[117, 105, 100]⟩, 1, x2, ⟨#[]⟩⟩, ⟨⟨#[109, 115, 103]⟩, 2, 0, x3⟩]).alloc (.cells #[.string ⟨#[112, 105, 100]⟩, .int .i64 1, .int .i64 x1, .string ⟨#[]⟩, .string ⟨#[117, 105, 100]⟩, .int .i64 1, .int .i64 x2, .string ⟨#[]⟩, .string ⟨#[109, 115, 103]⟩, .int .i64 2, .int .i64 0, .string x3] 58))
    clear o1 hse
    clear K
    obtain ⟨q, A, n, c', st, ow, hn, hl, hk⟩ : ∃ (q : Rc) (A : Option Addr) (n c' : Nat), Mr w ((wl.setCell ⟨gc, 3, none⟩ (.slice (some ⟨wl.heap.size, 0, none⟩) 3 3)).alloc (.cells #[.string ⟨#[112, 105, 100]⟩, .int .i64 1, .int .i64 x1, .string ⟨#[]⟩, .string ⟨#[117, 105, 100]⟩, .int .i64 1, .int .i64 x2, .string ⟨#[]⟩, .string ⟨#[109, 115, 103]⟩, .int .i64 2, .int .i64 0, .string x3] 58)) base g gc q (.slice A n c') ∧ OwnE EP ((wl.setCell ⟨gc, 3, none⟩ (.slice (some ⟨wl.heap.size, 0, none⟩) 3 3)).alloc (.cells #[.string ⟨#[112, 105, 100]⟩, .int .i64 1, .int .i64 x1, .string ⟨#[]⟩, .string ⟨#[117, 105, 100]⟩, .int .i64 1, .int .i64 x2, .string ⟨#[]⟩, .string ⟨#[109, 115, 103]⟩, .int .i64 2, .int .i64 0, .string x3] 58)) (gc + 1) (.slice A n c') q.ps ∧ n = q.ps.length ∧ q.ps.length ≤ 11 ∧ nmsOk q.ps = true := ⟨_, _, _, _, K1.out, O1.out, rfl, by show 3 ≤ 11; omega, (by unfold nmsOk; simp only [List.all_cons, List.all_nil, Bool.and_true, Bool.and_eq_true, decide_eq_true_eq]; exact ⟨⟨rfl, by first | assumption | decide⟩, ⟨rfl, by first | assumption | decide⟩, ⟨rfl, by first | assumption | decide⟩⟩)⟩
    have ST9 := Lib.hid st
    have OW9 := Lib.hid ow
    have HN9 := Lib.hid hn
    have HL9 := Lib.hid hl
    have HK9 := Lib.hid hk
    clear st ow hn hl hk
    go_wp2_with (first | ((with_reducible refine load_blk ?_ 63 (.tmp 7) ?_ ST9.out.cb ?_ _ Tryz.underlying63 ?_ ?_ ?_); (iterate 4 rfl); exact rc_sz _ _) | ((with_reducible refine store_blk ?_ 63 (.tmp 6) (.tmp 46) ?_ ST9.out.rb (rcC q (.slice A n c')) ?_ ?_ ?_ ?_ ?_ ?_); (iterate 4 rfl); (exact rc_sz _ _); rfl; (exact rec_one _ _ _ _)))
    refine bodyPost_ret (rec_ret6 (fn := Tryz.f29) rfl _ _ w.heap.size q (.slice A n c') rfl (Blk.row ST9.out.rb _)) rfl ?_
    exact mr_end ST9.out OW9.out HN9.out HL9.out HK9.out
  case pos =>
    subst hty
    go_wp2_with fail
    clear c0
    generalize w1.heap.size = gc at *
    have w1' : IntKind.i64.wrap (nn - 1) = nn - 1 := IntWalk.i64_in _ (by omega)
    refine (ca_int _ base g 3 K.out.src (by omega) (by omega)).mono ?_
    rintro e wl ⟨x1, rfl, hx0, hx1, hs, hg⟩
    have K := Lib.hid (K.out.step hs hg)
    clear hs hg
    have w2' : IntKind.i64.wrap (nn - 1 - x1) = nn - 1 - x1 := IntWalk.i64_in _ (by omega)
    go_wp2_with fail
    · refine (mnum _ _ _).mono ?_
      rintro e wl ⟨rfl, hb⟩
      have K := Lib.hid (K.out.below hb)
      clear hb
      go_wp2_with fail
      · refine (mnum _ _ _).mono ?_
        rintro e wl ⟨rfl, hb⟩
        have K := Lib.hid (K.out.below hb)
        clear hb
        go_wp2_with fail
        refine (mnum _ _ _).mono ?_
        rintro e wl ⟨rfl, hb⟩
        have K := Lib.hid (K.out.below hb)
        clear hb
        have c3 := (K.out.alloc (.cells #[.string ⟨#[102, 105, 114, 115, 116]⟩, .int .i64 1, .int .i64 (nn - 1 - x1), .string ⟨#[]⟩, .string ⟨#[108, 97, 115, 116]⟩, .int .i64 1, .int .i64 (nn - 1), .string ⟨#[]⟩, .string ⟨#[102, 117, 108, 108]⟩, .int .i64 1, .int .i64 1, .string ⟨#[]⟩] 58)).cb.cell 3
        have f3 := (K.out.alloc (.cells #[.string ⟨#[102, 105, 114, 115, 116]⟩, .int .i64 1, .int .i64 (nn - 1 - x1), .string ⟨#[]⟩, .string ⟨#[108, 97, 115, 116]⟩, .int .i64 1, .int .i64 (nn - 1), .string ⟨#[]⟩, .string ⟨#[102, 117, 108, 108]⟩, .int .i64 1, .int .i64 1, .string ⟨#[]⟩] 58)).cb.free 3
        have hgl := K.out.cb.lt
        have hse : (wl.setCell ⟨gc, 3, none⟩ (.slice (some ⟨wl.heap.size, 0, none⟩) 3 3)).heap.size = wl.heap.size := by simp [World.setCell]
        have o1 := OwnE.made EP (wl.setCell ⟨gc, 3, none⟩ (.slice (some ⟨wl.heap.size, 0, none⟩) 3 3)) #[.string ⟨#[102, 105, 114, 115, 116]⟩, .int .i64 1, .int .i64 (nn - 1 - x1), .string ⟨#[]⟩, .string ⟨#[108, 97, 115, 116]⟩, .int .i64 1, .int .i64 (nn - 1), .string ⟨#[]⟩, .string ⟨#[102, 117, 108, 108]⟩, .int .i64 1, .int .i64 1, .string ⟨#[]⟩] [⟨⟨#[102, 105, 114, 115, 116]⟩, 1, (nn - 1 - x1), ⟨#[]⟩⟩, ⟨⟨#[108, 97, 115, 116]⟩, 1, (nn - 1), ⟨#[]⟩⟩, ⟨⟨#[102, 117, 108, 108]⟩, 1, 1, ⟨#[]⟩⟩] rfl (base := gc + 1) (by rw [hse]; omega) (by show 3 ≤ 1000; omega) (n := 3) rfl
        rw [hse] at o1
        have O1 := Lib.hid (show OwnE EP ((wl.setCell ⟨gc, 3, none⟩ (.slice (some ⟨wl.heap.size, 0, none⟩) 3 3)).alloc (.cells #[.string ⟨#[102, 105, 114, 115, 116]⟩, .int .i64 1, .int .i64 (nn - 1 - x1), .string ⟨#[]⟩, .string ⟨#[108, 97, 115, 116]⟩, .int .i64 1, .int .i64 (nn - 1), .string ⟨#[]⟩, .string ⟨#[102, 117, 108, 108]⟩, .int .i64 1, .int .i64 1, .string ⟨#[]⟩] 58)) (gc + 1) (.slice (some ⟨wl.heap.size, 0, none⟩) 3 3) [⟨⟨#[102, 105, 114, 115, 116]⟩, 1, (nn - 1 - x1), ⟨#[]⟩⟩, ⟨⟨#[108, 97, 115, 116]⟩, 1, (nn - 1), ⟨#[]⟩⟩, ⟨⟨#[102, 117, 108, 108]⟩, 1, 1, ⟨#[]⟩⟩] from o1)
        have K1 := Lib.hid ((K.out.put (.slice (some ⟨wl.heap.size, 0, none⟩) 3 3) [⟨⟨#[102, 105, 114, 115, 116]⟩, 1, (nn - 1 - x1), ⟨#[]⟩⟩, ⟨⟨#[108, 97, 115, 116]⟩, 1, (nn - 1), ⟨#[]⟩⟩, ⟨⟨#[102, 117, 108, 108]⟩, 1, 1, ⟨#[]⟩⟩]).alloc (.cells #[.string ⟨#[102, 105, 114, 115, 116]⟩, .int .i64 1, .int .i64 (nn - 1 - x1), .string ⟨#[]⟩, .string ⟨#[108, 97, 115, 116]⟩, .int .i64 1, .int .i64 (nn - 1), .string ⟨#[]⟩, .string ⟨#[102, 117, 108, 108]⟩, .int .i64 1, .int .i64 1, .string ⟨#[]⟩] 58))
        clear o1 hse
        clear K
        obtain ⟨q, A, n, c', st, ow, hn, hl, hk⟩ : ∃ (q : Rc) (A : Option Addr) (n c' : Nat), Mr w ((wl.setCell ⟨gc, 3, none⟩ (.slice (some ⟨wl.heap.size, 0, none⟩) 3 3)).alloc (.cells #[.string ⟨#[102, 105, 114, 115, 116]⟩, .int .i64 1, .int .i64 (nn - 1 - x1), .string ⟨#[]⟩, .string ⟨#[108, 97, 115, 116]⟩, .int .i64 1, .int .i64 (nn - 1), .string ⟨#[]⟩, .string ⟨#[102, 117, 108, 108]⟩, .int .i64 1, .int .i64 1, .string ⟨#[]⟩] 58)) base g gc q (.slice A n c') ∧ OwnE EP ((wl.setCell ⟨gc, 3, none⟩ (.slice (some ⟨wl.heap.size, 0, none⟩) 3 3)).alloc (.cells #[.string ⟨#[102, 105, 114, 115, 116]⟩, .int .i64 1, .int .i64 (nn - 1 - x1), .string ⟨#[]⟩, .string ⟨#[108, 97, 115, 116]⟩, .int .i64 1, .int .i64 (nn - 1), .string ⟨#[]⟩, .string ⟨#[102, 117, 108, 108]⟩, .int .i64 1, .int .i64 1, .string ⟨#[]⟩] 58)) (gc + 1) (.slice A n c') q.ps ∧ n = q.ps.length ∧ q.ps.length ≤ 11 ∧ nmsOk q.ps = true := ⟨_, _, _, _, K1.out, O1.out, rfl, by show 3 ≤ 11; omega, (by unfold nmsOk; simp only [List.all_cons, List.all_nil, Bool.and_true, Bool.and_eq_true, decide_eq_true_eq]; exact ⟨⟨rfl, by first | assumption | decide⟩, ⟨rfl, by first | assumption | decide⟩, ⟨rfl, by first | assumption | decide⟩⟩)⟩
        have ST9 := Lib.hid st
        have OW9 := Lib.hid ow
        have HN9 := Lib.hid hn
        have HL9 := Lib.hid hl
        have HK9 := Lib.hid hk
        clear st ow hn hl hk
        go_wp2_with (first | ((with_reducible refine load_blk ?_ 63 (.tmp 7) ?_ ST9.out.cb ?_ _ Tryz.underlying63 ?_ ?_ ?_); (iterate 4 rfl); exact rc_sz _ _) | ((with_reducible refine store_blk ?_ 63 (.tmp 6) (.tmp 46) ?_ ST9.out.rb (rcC q (.slice A n c')) ?_ ?_ ?_ ?_ ?_ ?_); (iterate 4 rfl); (exact rc_sz _ _); rfl; (exact rec_one _ _ _ _)))
        refine bodyPost_ret (rec_ret6 (fn := Tryz.f29) rfl _ _ w.heap.size q (.slice A n c') rfl (Blk.row ST9.out.rb _)) rfl ?_
        exact mr_end ST9.out OW9.out HN9.out HL9.out HK9.out
      · refine (mnum _ _ _).mono ?_
        rintro e wl ⟨rfl, hb⟩
        have K := Lib.hid (K.out.below hb)
        clear hb
        go_wp2_with fail
        refine (mnum _ _ _).mono ?_
        rintro e wl ⟨rfl, hb⟩
        have K := Lib.hid (K.out.below hb)
        clear hb
        have c3 := (K.out.alloc (.cells #[.string ⟨#[102, 105, 114, 115, 116]⟩, .int .i64 1, .int .i64 (nn - 1 - x1), .string ⟨#[]⟩, .string ⟨#[108, 97, 115, 116]⟩, .int .i64 1, .int .i64 (nn - 1 - x1), .string ⟨#[]⟩, .string ⟨#[102, 117, 108, 108]⟩, .int .i64 1, .int .i64 1, .string ⟨#[]⟩] 58)).cb.cell 3
        have f3 := (K.out.alloc (.cells #[.string ⟨#[102, 105, 114, 115, 116]⟩, .int .i64 1, .int .i64 (nn - 1 - x1), .string ⟨#[]⟩, .string ⟨#[108, 97, 115, 116]⟩, .int .i64 1, .int .i64 (nn - 1 - x1), .string ⟨#[]⟩, .string ⟨#[102, 117, 108, 108]⟩, .int .i64 1, .int .i64 1, .string ⟨#[]⟩] 58)).cb.free 3
        have hgl := K.out.cb.lt
        have hse : (wl.setCell ⟨gc, 3, none⟩ (.slice (some ⟨wl.heap.size, 0, none⟩) 3 3)).heap.size = wl.heap.size := by simp [World.setCell]
        have o1 := OwnE.made EP (wl.setCell ⟨gc, 3, none⟩ (.slice (some ⟨wl.heap.size, 0, none⟩) 3 3)) #[.string ⟨#[102, 105, 114, 115, 116]⟩, .int .i64 1, .int .i64 (nn - 1 - x1), .string ⟨#[]⟩, .string ⟨#[108, 97, 115, 116]⟩, .int .i64 1, .int .i64 (nn - 1 - x1), .string ⟨#[]⟩, .string ⟨#[102, 117, 108, 108]⟩, .int .i64 1, .int .i64 1, .string ⟨#[]⟩] [⟨⟨#[102, 105, 114, 115, 116]⟩, 1, (nn - 1 - x1), ⟨#[]⟩⟩, ⟨⟨#[108, 97, 115, 116]⟩, 1, (nn - 1 - x1), ⟨#[]⟩⟩, ⟨⟨#[102, 117, 108, 108]⟩, 1, 1, ⟨#[]⟩⟩] rfl (base := gc + 1) (by rw [hse]; omega) (by show 3 ≤ 1000; omega) (n := 3) rfl
        rw [hse] at o1
        have O1 := Lib.hid (show OwnE EP ((wl.setCell ⟨gc, 3, none⟩ (.slice (some ⟨wl.heap.size, 0, none⟩) 3 3)).alloc (.cells #[.string ⟨#[102, 105, 114, 115, 116]⟩, .int .i64 1, .int .i64 (nn - 1 - x1), .string ⟨#[]⟩, .string ⟨#[108, 97, 115, 116]⟩, .int .i64 1, .int .i64 (nn - 1 - x1), .string ⟨#[]⟩, .string ⟨#[102, 117, 108, 108]⟩, .int .i64 1, .int .i64 1, .string ⟨#[]⟩] 58)) (gc + 1) (.slice (some ⟨wl.heap.size, 0, none⟩) 3 3) [⟨⟨#[102, 105, 114, 115, 116]⟩, 1, (nn - 1 - x1), ⟨#[]⟩⟩, ⟨⟨#[108, 97, 115, 116]⟩, 1, (nn - 1 - x1), ⟨#[]⟩⟩, ⟨⟨#[102, 117, 108, 108]⟩, 1, 1, ⟨#[]⟩⟩] from o1)
        have K1 := Lib.hid ((K.out.put (.slice (some ⟨wl.heap.size, 0, none⟩) 3 3) [⟨⟨#[102, 105, 114, 115, 116]⟩, 1, (nn - 1 - x1), ⟨#[]⟩⟩, ⟨⟨#[108, 97, 115, 116]⟩, 1, (nn - 1 - x1), ⟨#[]⟩⟩, ⟨⟨#[102, 117, 108, 108]⟩, 1, 1, ⟨#[]⟩⟩]).alloc (.cells #[.string ⟨#[102, 105, 114, 115, 116]⟩, .int .i64 1, .int .i64 (nn - 1 - x1), .string ⟨#[]⟩, .string ⟨#[108, 97, 115, 116]⟩, .int .i64 1, .int .i64 (nn - 1 - x1), .string ⟨#[]⟩, .string ⟨#[102, 117, 108, 108]⟩, .int .i64 1, .int .i64 1, .string ⟨#[]⟩] 58))
        clear o1 hse
        clear K
        obtain ⟨q, A, n, c', st, ow, hn, hl, hk⟩ : ∃ (q : Rc) (A : Option Addr) (n c' : Nat), Mr w ((wl.setCell ⟨gc, 3, none⟩ (.slice (some ⟨wl.heap.size, 0, none⟩) 3 3)).alloc (.cells #[.string ⟨#[102, 105, 114, 115, 116]⟩, .int .i64 1, .int .i64 (nn - 1 - x1), .string ⟨#[]⟩, .string ⟨#[108, 97, 115, 116]⟩, .int .i64 1, .int .i64 (nn - 1 - x1), .string ⟨#[]⟩, .string ⟨#[102, 117, 108, 108]⟩, .int .i64 1, .int .i64 1, .string ⟨#[]⟩] 58)) base g gc q (.slice A n c') ∧ OwnE EP ((wl.setCell ⟨gc, 3, none⟩ (.slice (some ⟨wl.heap.size, 0, none⟩) 3 3)).alloc (.cells #[.string ⟨#[102, 105, 114, 115, 116]⟩, .int .i64 1, .int .i64 (nn - 1 - x1), .string ⟨#[]⟩, .string ⟨#[108, 97, 115, 116]⟩, .int .i64 1, .int .i64 (nn - 1 - x1), .string ⟨#[]⟩, .string ⟨#[102, 117, 108, 108]⟩, .int .i64 1, .int .i64 1, .string ⟨#[]⟩] 58)) (gc + 1) (.slice A n c') q.ps ∧ n = q.ps.length ∧ q.ps.length ≤ 11 ∧ nmsOk q.ps = true := ⟨_, _, _, _, K1.out, O1.out, rfl, by show 3 ≤ 11; omega, (by unfold nmsOk; simp only [List.all_cons, List.all_nil, Bool.and_true, Bool.and_eq_true, decide_eq_true_eq]; exact ⟨⟨rfl, by first | assumption | decide⟩, ⟨rfl, by first | assumption | decide⟩, ⟨rfl, by first | assumption | decide⟩⟩)⟩
        have ST9 := Lib.hid st
        have OW9 := Lib.hid ow
        have HN9 := Lib.hid hn
        have HL9 := Lib.hid hl
        have HK9 := Lib.hid hk
        clear st ow hn hl hk
        go_wp2_with (first | ((with_reducible refine load_blk ?_ 63 (.tmp 7) ?_ ST9.out.cb ?_ _ Tryz.underlying63 ?_ ?_ ?_); (iterate 4 rfl); exact rc_sz _ _) | ((with_reducible refine store_blk ?_ 63 (.tmp 6) (.tmp 46) ?_ ST9.out.rb (rcC q (.slice A n c')) ?_ ?_ ?_ ?_ ?_ ?_); (iterate 4 rfl); (exact rc_sz _ _); rfl; (exact rec_one _ _ _ _)))
        refine bodyPost_ret (rec_ret6 (fn := Tryz.f29) rfl _ _ w.heap.size q (.slice A n c') rfl (Blk.row ST9.out.rb _)) rfl ?_
        exact mr_end ST9.out OW9.out HN9.out HL9.out HK9.out
    · refine (mnum _ _ _).mono ?_
      rintro e wl ⟨rfl, hb⟩
      have K := Lib.hid (K.out.below hb)
      clear hb
      go_wp2_with fail
      · refine (mnum _ _ _).mono ?_
        rintro e wl ⟨rfl, hb⟩
        have K := Lib.hid (K.out.below hb)
        clear hb
        go_wp2_with fail
        refine (mnum _ _ _).mono ?_
        rintro e wl ⟨rfl, hb⟩
        have K := Lib.hid (K.out.below hb)
        clear hb
        have c3 := (K.out.alloc (.cells #[.string ⟨#[102, 105, 114, 115, 116]⟩, .int .i64 1, .int .i64 1, .string ⟨#[]⟩, .string ⟨#[108, 97, 115, 116]⟩, .int .i64 1, .int .i64 (nn - 1), .string ⟨#[]⟩, .string ⟨#[102, 117, 108, 108]⟩, .int .i64 1, .int .i64 1, .string ⟨#[]⟩] 58)).cb.cell 3
        have f3 := (K.out.alloc (.cells #[.string ⟨#[102, 105, 114, 115, 116]⟩, .int .i64 1, .int .i64 1, .string ⟨#[]⟩, .string ⟨#[108, 97, 115, 116]⟩, .int .i64 1, .int .i64 (nn - 1), .string ⟨#[]⟩, .string ⟨#[102, 117, 108, 108]⟩, .int .i64 1, .int .i64 1, .string ⟨#[]⟩] 58)).cb.free 3
        have hgl := K.out.cb.lt
        have hse : (wl.setCell ⟨gc, 3, none⟩ (.slice (some ⟨wl.heap.size, 0, none⟩) 3 3)).heap.size = wl.heap.size := by simp [World.setCell]
        have o1 := OwnE.made EP (wl.setCell ⟨gc, 3, none⟩ (.slice (some ⟨wl.heap.size, 0, none⟩) 3 3)) #[.string ⟨#[102, 105, 114, 115, 116]⟩, .int .i64 1, .int .i64 1, .string ⟨#[]⟩, .string ⟨#[108, 97, 115, 116]⟩, .int .i64 1, .int .i64 (nn - 1), .string ⟨#[]⟩, .string ⟨#[102, 117, 108, 108]⟩, .int .i64 1, .int .i64 1, .string ⟨#[]⟩] [⟨⟨#[102, 105, 114, 115, 116]⟩, 1, 1, ⟨#[]⟩⟩, ⟨⟨#[108, 97, 115, 116]⟩, 1, (nn - 1), ⟨#[]⟩⟩, ⟨⟨#[102, 117, 108, 108]⟩, 1, 1, ⟨#[]⟩⟩] rfl (base := gc + 1) (by rw [hse]; omega) (by show 3 ≤ 1000; omega) (n := 3) rfl
        rw [hse] at o1
        have O1 := Lib.hid (show OwnE EP ((wl.setCell ⟨gc, 3, none⟩ (.slice (some ⟨wl.heap.size, 0, none⟩) 3 3)).alloc (.cells #[.string ⟨#[102, 105, 114, 115, 116]⟩, .int .i64 1, .int .i64 1, .string ⟨#[]⟩, .string ⟨#[108, 97, 115, 116]⟩, .int .i64 1, .int .i64 (nn - 1), .string ⟨#[]⟩, .string ⟨#[102, 117, 108, 108]⟩, .int .i64 1, .int .i64 1, .string ⟨#[]⟩] 58)) (gc + 1) (.slice (some ⟨wl.heap.size, 0, none⟩) 3 3) [⟨⟨#[102, 105, 114, 115, 116]⟩, 1, 1, ⟨#[]⟩⟩, ⟨⟨#[108, 97, 115, 116]⟩, 1, (nn - 1), ⟨#[]⟩⟩, ⟨⟨#[102, 117, 108, 108]⟩, 1, 1, ⟨#[]⟩⟩] from o1)
        have K1 := Lib.hid ((K.out.put (.slice (some ⟨wl.heap.size, 0, none⟩) 3 3) [⟨⟨#[102, 105, 114, 115, 116]⟩, 1, 1, ⟨#[]⟩⟩, ⟨⟨#[108, 97, 115, 116]⟩, 1, (nn - 1), ⟨#[]⟩⟩, ⟨⟨#[102, 117, 108, 108]⟩, 1, 1, ⟨#[]⟩⟩]).alloc (.cells #[.string ⟨#[102, 105, 114, 115, 116]⟩, .int .i64 1, .int .i64 1, .string ⟨#[]⟩, .string ⟨#[108, 97, 115, 116]⟩, .int .i64 1, .int .i64 (nn - 1), .string ⟨#[]⟩, .string ⟨#[102, 117, 108, 108]⟩, .int .i64 1, .int .i64 1, .string ⟨#[]⟩] 58))
        clear o1 hse
        clear K
        obtain ⟨q, A, n, c', st, ow, hn, hl, hk⟩ : ∃ (q : Rc) (A : Option Addr) (n c' : Nat), Mr w ((wl.setCell ⟨gc, 3, none⟩ (.slice (some ⟨wl.heap.size, 0, none⟩) 3 3)).alloc (.cells #[.string ⟨#[102, 105, 114, 115, 116]⟩, .int .i64 1, .int .i64 1, .string ⟨#[]⟩, .string ⟨#[108, 97, 115, 116]⟩, .int .i64 1, .int .i64 (nn - 1), .string ⟨#[]⟩, .string ⟨#[102, 117, 108, 108]⟩, .int .i64 1, .int .i64 1, .string ⟨#[]⟩] 58)) base g gc q (.slice A n c') ∧ OwnE EP ((wl.setCell ⟨gc, 3, none⟩ (.slice (some ⟨wl.heap.size, 0, none⟩) 3 3)).alloc (.cells #[.string ⟨#[102, 105, 114, 115, 116]⟩, .int .i64 1, .int .i64 1, .string ⟨#[]⟩, .string ⟨#[108, 97, 115, 116]⟩, .int .i64 1, .int .i64 (nn - 1), .string ⟨#[]⟩, .string ⟨#[102, 117, 108, 108]⟩, .int .i64 1, .int .i64 1, .string ⟨#[]⟩] 58)) (gc + 1) (.slice A n c') q.ps ∧ n = q.ps.length ∧ q.ps.length ≤ 11 ∧ nmsOk q.ps = true := ⟨_, _, _, _, K1.out, O1.out, rfl, by show 3 ≤ 11; omega, (by unfold nmsOk; simp only [List.all_cons, List.all_nil, Bool.and_true, Bool.and_eq_true, decide_eq_true_eq]; exact ⟨⟨rfl, by first | assumption | decide⟩, ⟨rfl, by first | assumption | decide⟩, ⟨rfl, by first | assumption | decide⟩⟩)⟩
        have ST9 := Lib.hid st
        have OW9 := Lib.hid ow
        have HN9 := Lib.hid hn
        have HL9 := Lib.hid hl
        have HK9 := Lib.hid hk
        clear st ow hn hl hk
        go_wp2_with (first | ((with_reducible refine load_blk ?_ 63 (.tmp 7) ?_ ST9.out.cb ?_ _ Tryz.underlying63 ?_ ?_ ?_); (iterate 4 rfl); exact rc_sz _ _) | ((with_reducible refine store_blk ?_ 63 (.tmp 6) (.tmp 46) ?_ ST9.out.rb (rcC q (.slice A n c')) ?_ ?_ ?_ ?_ ?_ ?_); (iterate 4 rfl); (exact rc_sz _ _); rfl; (exact rec_one _ _ _ _)))
        refine bodyPost_ret (rec_ret6 (fn := Tryz.f29) rfl _ _ w.heap.size q (.slice A n c') rfl (Blk.row ST9.out.rb _)) rfl ?_
        exact mr_end ST9.out OW9.out HN9.out HL9.out HK9.out
      · refine (mnum _ _ _).mono ?_
        rintro e wl ⟨rfl, hb⟩
        have K := Lib.hid (K.out.below hb)
        clear hb
        go_wp2_with fail
        refine (mnum _ _ _).mono ?_
        rintro e wl ⟨rfl, hb⟩
        have K := Lib.hid (K.out.below hb)
        clear hb
        have c3 := (K.out.alloc (.cells #[.string ⟨#[102, 105, 114, 115, 116]⟩, .int .i64 1, .int .i64 1, .string ⟨#[]⟩, .string ⟨#[108, 97, 115, 116]⟩, .int .i64 1, .int .i64 1, .string ⟨#[]⟩, .string ⟨#[102, 117, 108, 108]⟩, .int .i64 1, .int .i64 1, .string ⟨#[]⟩] 58)).cb.cell 3
        have f3 := (K.out.alloc (.cells #[.string ⟨#[102, 105, 114, 115, 116]⟩, .int .i64 1, .int .i64 1, .string ⟨#[]⟩, .string ⟨#[108, 97, 115, 116]⟩, .int .i64 1, .int .i64 1, .string ⟨#[]⟩, .string ⟨#[102, 117, 108, 108]⟩, .int .i64 1, .int .i64 1, .string ⟨#[]⟩] 58)).cb.free 3
        have hgl := K.out.cb.lt
        have hse : (wl.setCell ⟨gc, 3, none⟩ (.slice (some ⟨wl.heap.size, 0, none⟩) 3 3)).heap.size = wl.heap.size := by simp [World.setCell]
        have o1 := OwnE.made EP (wl.setCell ⟨gc, 3, none⟩ (.slice (some ⟨wl.heap.size, 0, none⟩) 3 3)) #[.string ⟨#[102, 105, 114, 115, 116]⟩, .int .i64 1, .int .i64 1, .string ⟨#[]⟩, .string ⟨#[108, 97, 115, 116]⟩, .int .i64 1, .int .i64 1, .string ⟨#[]⟩, .string ⟨#[102, 117, 108, 108]⟩, .int .i64 1, .int .i64 1, .string ⟨#[]⟩] [⟨⟨#[102, 105, 114, 115, 116]⟩, 1, 1, ⟨#[]⟩⟩, ⟨⟨#[108, 97, 115, 116]⟩, 1, 1, ⟨#[]⟩⟩, ⟨⟨#[102, 117, 108, 108]⟩, 1, 1, ⟨#[]⟩⟩] rfl (base := gc + 1) (by rw [hse]; omega) (by show 3 ≤ 1000; omega) (n := 3) rfl
        rw [hse] at o1
        have O1 := Lib.hid (show OwnE EP ((wl.setCell ⟨gc, 3, none⟩ (.slice (some ⟨wl.heap.size, 0, none⟩) 3 3)).alloc (.cells #[.string ⟨#[102, 105, 114, 115, 116]⟩, .int .i64 1, .int .i64 1, .string ⟨#[]⟩, .string ⟨#[108, 97, 115, 116]⟩, .int .i64 1, .int .i64 1, .string ⟨#[]⟩, .string ⟨#[102, 117, 108, 108]⟩, .int .i64 1, .int .i64 1, .string ⟨#[]⟩] 58)) (gc + 1) (.slice (some ⟨wl.heap.size, 0, none⟩) 3 3) [⟨⟨#[102, 105, 114, 115, 116]⟩, 1, 1, ⟨#[]⟩⟩, ⟨⟨#[108, 97, 115, 116]⟩, 1, 1, ⟨#[]⟩⟩, ⟨⟨#[102, 117, 108, 108]⟩, 1, 1, ⟨#[]⟩⟩] from o1)
        have K1 := Lib.hid ((K.out.put (.slice (some ⟨wl.heap.size, 0, none⟩) 3 3) [⟨⟨#[102, 105, 114, 115, 116]⟩, 1, 1, ⟨#[]⟩⟩, ⟨⟨#[108, 97, 115, 116]⟩, 1, 1, ⟨#[]⟩⟩, ⟨⟨#[102, 117, 108, 108]⟩, 1, 1, ⟨#[]⟩⟩]).alloc (.cells #[.string ⟨#[102, 105, 114, 115, 116]⟩, .int .i64 1, .int .i64 1, .string ⟨#[]⟩, .string ⟨#[108, 97, 115, 116]⟩, .int .i64 1, .int .i64 1, .string ⟨#[]⟩, .string ⟨#[102, 117, 108, 108]⟩, .int .i64 1, .int .i64 1, .string ⟨#[]⟩] 58))
        clear o1 hse
        clear K
        obtain ⟨q, A, n, c', st, ow, hn, hl, hk⟩ : ∃ (q : Rc) (A : Option Addr) (n c' : Nat), Mr w ((wl.setCell ⟨gc, 3, none⟩ (.slice (some ⟨wl.heap.size, 0, none⟩) 3 3)).alloc (.cells #[.string ⟨#[102, 105, 114, 115, 116]⟩, .int .i64 1, .int .i64 1, .string ⟨#[]⟩, .string ⟨#[108, 97, 115, 116]⟩, .int .i64 1, .int .i64 1, .string ⟨#[]⟩, .string ⟨#[102, 117, 108, 108]⟩, .int .i64 1, .int .i64 1, .string ⟨#[]⟩] 58)) base g gc q (.slice A n c') ∧ OwnE EP ((wl.setCell ⟨gc, 3, none⟩ (.slice (some ⟨wl.heap.size, 0, none⟩) 3 3)).alloc (.cells #[.string ⟨#[102, 105, 114, 115, 116]⟩, .int .i64 1, .int .i64 1, .string ⟨#[]⟩, .string ⟨#[108, 97, 115, 116]⟩, .int .i64 1, .int .i64 1, .string ⟨#[]⟩, .string ⟨#[102, 117, 108, 108]⟩, .int .i64 1, .int .i64 1, .string ⟨#[]⟩] 58)) (gc + 1) (.slice A n c') q.ps ∧ n = q.ps.length ∧ q.ps.length ≤ 11 ∧ nmsOk q.ps = true := ⟨_, _, _, _, K1.out, O1.out, rfl, by show 3 ≤ 11; omega, (by unfold nmsOk; simp only [List.all_cons, List.all_nil, Bool.and_true, Bool.and_eq_true, decide_eq_true_eq]; exact ⟨⟨rfl, by first | assumption | decide⟩, ⟨rfl, by first | assumption | decide⟩, ⟨rfl, by first | assumption | decide⟩⟩)⟩
        have ST9 := Lib.hid st
        have OW9 := Lib.hid ow
        have HN9 := Lib.hid hn
        have HL9 := Lib.hid hl
        have HK9 := Lib.hid hk
        clear st ow hn hl hk
        go_wp2_with (first | ((with_reducible refine load_blk ?_ 63 (.tmp 7) ?_ ST9.out.cb ?_ _ Tryz.underlying63 ?_ ?_ ?_); (iterate 4 rfl); exact rc_sz _ _) | ((with_reducible refine store_blk ?_ 63 (.tmp 6) (.tmp 46) ?_ ST9.out.rb (rcC q (.slice A n c')) ?_ ?_ ?_ ?_ ?_ ?_); (iterate 4 rfl); (exact rc_sz _ _); rfl; (exact rec_one _ _ _ _)))
        refine bodyPost_ret (rec_ret6 (fn := Tryz.f29) rfl _ _ w.heap.size q (.slice A n c') rfl (Blk.row ST9.out.rb _)) rfl ?_
        exact mr_end ST9.out OW9.out HN9.out HL9.out HK9.out
end Go.Proofs.YtpldopoeopjcoaaGreatDoor

/- Texts of one proof, laid together. -/
import Derived.Test.YtollifnnpihfdaaGreatDoorC29
import Derived.StillTailTactics
import Derived.Great.BuildSlice
import Derived.Great.Walk
import Derived.Test.YtollifnnpihfdaaGreatDoorC01
import Derived.Test.YtollifnnpihfdaaGreatDoorC15
/- Event of the small example, and awake. -/
namespace Go.Proofs.YtollifnnpihfdaaGreatDoor
open Go.RowKit
abbrev cxL : Array Value := #[.int .i64 2, .int .i64 0, .int .i64 0, .int .i64 0, .int .i64 0, .int .i64 0, .int .i64 0, .int .i64 0, .int .i64 0, .int .i64 0, .int .i64 0, .string ⟨#[]⟩, .string ⟨#[]⟩, .slice none 0 0, .bool false, .int .i64 3, .int .i64 0, .int .i64 0, .int .i64 0, .int .i64 0, .slice none 0 0, .slice none 0 0, .int .i64 0, .slice none 0 0, .int .i64 0]
theorem cxL_sz : (Tryz.prog.info? 54).map (·.size) = some cxL.size := by show _ = some 25; kernel_rfl
def EventPost (w : World) (e : Ending) (w' : World) : Prop := ∃ (A : Option Addr) (c : Nat) (x y : Rm), e = .returned (.slice A 2 c) ∧ AtE ER w' w'.heap.size A [x, y] ∧ x.r.ty = 1300 ∧ x.r.ti = 5 ∧ x.r.ps.length = 19 ∧ y.r.ty = 1320 ∧ Below w.heap.size w w'
abbrev ev4 (w : World) : World := (((w.alloc (.cells #[.slice none 0 0, .slice none 0 0] 41)).alloc (.cells #[.slice none 0 0, .slice none 0 0] 31)).alloc (.cells cxL 54)).alloc (.cells #[.bool true, .int .i64 0, .string ⟨#[107]⟩] 63)
theorem ev4_sz (w : World) : (ev4 w).heap.size = w.heap.size + 4 := by simp [ev4]
theorem ev4_cx (w : World) : Blk (ev4 w) (w.heap.size + 2) 54 cxL := by
  have := Blk.new ((w.alloc (.cells #[.slice none 0 0, .slice none 0 0] 41)).alloc (.cells #[.slice none 0 0, .slice none 0 0] 31)) cxL 54
  have e : ((w.alloc (.cells #[.slice none 0 0, .slice none 0 0] 41)).alloc (.cells #[.slice none 0 0, .slice none 0 0] 31)).heap.size = w.heap.size + 2 := by simp
  rw [e] at this
  exact this.alloc _
theorem ev4_low (w : World) : Below w.heap.size w (ev4 w) := ((((Below.refl _ _).alloc (Nat.le_refl _) _).alloc (by simp) _).alloc (by simp; omega) _).alloc (by simp; omega) _
set_option maxRecDepth 100000 in
set_option maxHeartbeats 8000000 in
theorem vevent (w : World) (hc : Calls10 w) : Calls Tryz.prog 17 #[.agg #[.slice none 0 0, .slice none 0 0], .agg #[.slice none 0 0, .slice none 0 0], .agg cxL, .agg #[.bool true, .int .i64 0, .string ⟨#[107]⟩], .int .i64 5] w (EventPost w) := by
  have X7 := Lib.hid (ev4_cx w)
  have HB := Lib.hid (ev4_low w)
  have HS := Lib.hid (ev4_sz w)
  have HC := Lib.hid (fun (W : World) (h : Below w.heap.size w W) => hc.below h (Nat.le_refl _))
  clear hc
  go_enter Tryz.func17, Tryz.ntmps17
  go_wp2_with ((with_reducible refine load_blk ?_ 54 (.tmp 7) ?_ X7.out ?_ _ Tryz.underlying54 ?_ ?_ ?_); (iterate 4 rfl); exact cxL_sz)
  have hg0 : Blk ((ev4 w).alloc (.cells #[.slice none 0 0, .slice none 0 0, .int .i64 2, .int .i64 0, .int .i64 0, .int .i64 0, .int .i64 0, .int .i64 0, .int .i64 0, .int .i64 0, .int .i64 0, .int .i64 0, .int .i64 0, .string ⟨#[]⟩, .string ⟨#[]⟩, .slice none 0 0, .bool false, .int .i64 3, .int .i64 0, .int .i64 0, .int .i64 0, .int .i64 0, .slice none 0 0, .slice none 0 0, .int .i64 0, .slice none 0 0, .int .i64 0, .int .i64 5, .slice none 0 0] 124)) (w.heap.size + 4) 124 (mkC (.slice none 0 0)) := by
    have := Blk.new (ev4 w) #[.slice none 0 0, .slice none 0 0, .int .i64 2, .int .i64 0, .int .i64 0, .int .i64 0, .int .i64 0, .int .i64 0, .int .i64 0, .int .i64 0, .int .i64 0, .int .i64 0, .int .i64 0, .string ⟨#[]⟩, .string ⟨#[]⟩, .slice none 0 0, .bool false, .int .i64 3, .int .i64 0, .int .i64 0, .int .i64 0, .int .i64 0, .slice none 0 0, .slice none 0 0, .int .i64 0, .slice none 0 0, .int .i64 0, .int .i64 5, .slice none 0 0] 124
    rw [ev4_sz] at this
    exact this
  have hb0 : Below w.heap.size w ((ev4 w).alloc (.cells #[.slice none 0 0, .slice none 0 0, .int .i64 2, .int .i64 0, .int .i64 0, .int .i64 0, .int .i64 0, .int .i64 0, .int .i64 0, .int .i64 0, .int .i64 0, .int .i64 0, .int .i64 0, .string ⟨#[]⟩, .string ⟨#[]⟩, .slice none 0 0, .bool false, .int .i64 3, .int .i64 0, .int .i64 0, .int .i64 0, .int .i64 0, .slice none 0 0, .slice none 0 0, .int .i64 0, .slice none 0 0, .int .i64 0, .int .i64 5, .slice none 0 0] 124)) := HB.out.alloc HB.out.size _
  refine (vsys (w.heap.size + 4) _ hg0 (HC.out _ hb0)).mono ?_
  rintro e w1 ⟨v, x, rfl, hg1, ho, t1, t2, t3, hgr⟩
  obtain ⟨A, c, hv, hA⟩ := ho.at
  subst hv
  have X7b := Lib.hid (Blk.grown (X7.out.alloc (.cells #[.slice none 0 0, .slice none 0 0, .int .i64 2, .int .i64 0, .int .i64 0, .int .i64 0, .int .i64 0, .int .i64 0, .int .i64 0, .int .i64 0, .int .i64 0, .int .i64 0, .int .i64 0, .string ⟨#[]⟩, .string ⟨#[]⟩, .slice none 0 0, .bool false, .int .i64 3, .int .i64 0, .int .i64 0, .int .i64 0, .int .i64 0, .slice none 0 0, .slice none 0 0, .int .i64 0, .slice none 0 0, .int .i64 0, .int .i64 5, .slice none 0 0] 124)) hgr (fun e => by injection e with e; omega))
  have HB1 := Lib.hid (show Below w.heap.size w w1 from hb0.trans ⟨hgr.os, hgr.tape, hgr.output, hgr.size, fun i hi => hgr.block i (by have := hb0.size; omega) (fun e => by injection e with e; omega)⟩)
  have HO := Lib.hid (ho.low (base := w.heap.size) hb0.size)
  have HT := Lib.hid (And.intro t1 (And.intro t2 t3))
  have c15 := X7b.out.cell 15
  have c23 := X7b.out.cell 23
  have r28 := (hg1.cell 28).trans (mk_28 _)
  clear hg0 hb0 hg1 ho t1 t2 t3 hgr hA X7 HB HS HC
  go_wp2_with fail
  go_loopw [76] (fun i wr => i = .int .i64 0 ∧ wr = w1) (fun i _ => 0)
  case atStart => exact ⟨rfl, rfl⟩
  case round =>
    obtain ⟨rfl, rfl⟩ := hrel
    have RW := Lib.hid (row_newE ER wr #[.int .i64 1320, .int .i64 5, .int .i64 0, .slice none 0 0] 77 ⟨⟨1320, 5, 0, []⟩, none, 0⟩ rfl (Nat.lt_succ_self wr.heap.size))
    have HO2 := Lib.hid (HO.out.alloc (.cells #[.int .i64 1320, .int .i64 5, .int .i64 0, .slice none 0 0] 77))
    have HB2 := Lib.hid (HB1.out.alloc HB1.out.size (.cells #[.int .i64 1320, .int .i64 5, .int .i64 0, .slice none 0 0] 77))
    go_wp2_with (refine wpList_append_el ER rfl (.tmp 95) (.tmp 98) rfl w.heap.size (.slice A 1 c) [x] rfl HO2.out (wr.heap.size + 1) (some ⟨wr.heap.size, 0, none⟩) 1 1 [⟨⟨1320, 5, 0, []⟩, none, 0⟩] rfl rfl RW.out (by simp) (by exact HB2.out.size) ?_; intro v6 w6 ho6 hg6 hat6)
    obtain ⟨A6, c6, hv6, hA6⟩ := ho6.at
    subst hv6
    have HF := Lib.hid (show EventPost w (.returned (.slice A6 2 c6)) w6 from ⟨A6, c6, x, ⟨⟨1320, 5, 0, []⟩, none, 0⟩, rfl, hA6, HT.out.1, HT.out.2.1, HT.out.2.2, rfl, HB2.out.grown hg6 HB2.out.size (fun k e => by have := HO2.out.ge k e; omega)⟩)
    clear hA6 hg6 hat6 ho6
    go_wp2_with fail
    go_ret
    exact HF.out
end Go.Proofs.YtollifnnpihfdaaGreatDoor
/- awake of layer 19; the walk of the law EmitStamps. -/
namespace Go.Proofs.YtollifnnpihfdaaGreatDoor
open Go.RowKit
abbrev zxL : Array Value := #[.int .i64 0, .int .i64 0, .int .i64 0, .int .i64 0, .int .i64 0, .int .i64 0, .int .i64 0, .int .i64 0, .int .i64 0, .int .i64 0, .int .i64 0, .string ⟨#[]⟩, .string ⟨#[]⟩, .slice none 0 0, .bool false, .int .i64 0, .int .i64 0, .int .i64 0, .int .i64 0, .int .i64 0, .slice none 0 0, .slice none 0 0, .int .i64 0, .slice none 0 0, .int .i64 0]
abbrev awW (w : World) : World := (w.alloc (.cells zxL 54)).setRow w.heap.size cxL
abbrev c47 : Array Value := #[.int .i64 3, .int .i64 0, .int .i64 0, .int .i64 0, .int .i64 0, .slice none 0 0, .slice none 0 0, .int .i64 0, .slice none 0 0, .int .i64 0]
set_option maxRecDepth 100000 in
set_option maxHeartbeats 8000000 in
theorem awake19 (w : World) (hc : Calls10 w) : Calls Tryz.prog 19 #[] w fun e w' => e = .returned (.bool true) ∧ Below w.heap.size w w' := by
  have hb0 : Below w.heap.size w (awW w) := below_row ((Below.refl _ _).alloc (Nat.le_refl _) _) (Nat.le_refl _) _
  have X1 := Lib.hid (show Blk (awW w) w.heap.size 54 cxL from (Blk.new w zxL 54).row cxL)
  have HE := Lib.hid (vevent (awW w) (hc.below hb0 (Nat.le_refl _)))
  have HB0 := Lib.hid hb0
  clear hb0 hc
  go_enter Tryz.func19, Tryz.ntmps19
  go_wp2_with (first
    | (refine wpList_buildTo rfl 51 _ rfl (some 3) rfl c47 (by as_aux_lemma => kernel_rfl) ?_)
    | (refine wpList_buildTo rfl 54 _ rfl (some 4) rfl cxL (by as_aux_lemma => kernel_rfl) ?_)
    | (refine Great.wpList_allocTo rfl (some 1) rfl (.pointer (some ⟨w.heap.size, 0, none⟩)) (.cells zxL 54) (by as_aux_lemma => kernel_rfl) ?_)
    | (refine wpList_store_rowTo rfl 54 _ _ rfl rfl w.heap.size cxL rfl rfl 54 zxL (heap_alloc_new w _) cxL_sz rfl (by as_aux_lemma => kernel_rfl) ?_)
    | ((with_reducible refine load_blk ?_ 54 (.tmp 1) ?_ X1.out ?_ _ Tryz.underlying54 ?_ ?_ ?_); (iterate 4 rfl); exact cxL_sz))
  refine HE.out.mono ?_
  rintro e w1 ⟨A, c, x, y, rfl, hA, t1, t2, t3, t4, hb1⟩
  obtain ⟨ad, rfl, _, h0⟩ := hA 0 (by simp)
  obtain ⟨ad', e', _, h1⟩ := hA 1 (by simp)
  injection e' with e'
  subst e'
  obtain ⟨q0, q1, _, q3⟩ := rc_cells (a := ad) (x := x) h0
  have h4 : w1.cell? ⟨ad.block, ad.off + 4, none⟩ = some (.int .i64 y.r.ty) := h1 0 (by show 0 < 4; omega)
  rw [t1] at q0
  rw [t2] at q1
  rw [t3] at q3
  rw [t4] at h4
  have HB1 := Lib.hid (below_then HB0.out hb1)
  clear t1 t2 t3 t4 hb1 h0 h1 hA X1 HE
  go_wp2_with fail
  go_ret
  exact ⟨rfl, HB1.out⟩
/-- The list that is made. -/
structure LsSt (w wr : World) (v : Value) (L : List Rm) (b : Int) : Prop where
  low : Below w.heap.size w wr
  src : SrcOk wr w.heap.size w.heap.size b
  own : OwnE ER wr (w.heap.size + 1) v L
  ps : ∀ x ∈ L, OwnE EP wr (w.heap.size + 1) x.sl x.r.ps ∧ (∀ k, x.sl.ownBlock = some k → v.ownBlock ≠ some k) ∧ x.r.ps.length ≤ 1000
section
variable {w wr w' w2 : World} {v v' : Value} {L : List Rm} {b b' : Int} {x : Rm}
theorem LsSt.step (h : LsSt w wr v L b) (hs : SrcOk w' w.heap.size w.heap.size b') (hg : wr.grownBy w' (some w.heap.size)) : LsSt w w' v L b' :=
  ⟨below_only h.low hg h.low.size (Nat.le_refl _), hs, h.own.far hg (fun k hk e => by injection e with e; have := h.own.ge k hk; omega), fun x hx => ⟨(h.ps x hx).1.far hg (fun k hk e => by injection e with e; have := (h.ps x hx).1.ge k hk; omega), (h.ps x hx).2⟩⟩
theorem LsSt.below (h : LsSt w wr v L b) (hb : Below wr.heap.size wr w') : LsSt w w' v L b := ⟨below_then h.low hb, h.src.below hb, h.own.below hb, fun x hx => ⟨(h.ps x hx).1.below hb, (h.ps x hx).2⟩⟩
theorem LsSt.more (h : LsSt w wr v L b) (hb : b ≤ b') : LsSt w wr v L b' := ⟨h.low, h.src.more hb, h.own, h.ps⟩
theorem LsSt.app (h : LsSt w w2 v L b) (hp : OwnE EP w2 (w.heap.size + 1) x.sl x.r.ps) (hf : ∀ k, x.sl.ownBlock = some k → v.ownBlock ≠ some k) (hl : x.r.ps.length ≤ 1000) (ho : OwnE ER w' (w.heap.size + 1) v' (L ++ [x])) (hg : w2.grownBy w' v.ownBlock) (hat : v'.ownBlock = v.ownBlock ∨ v'.ownBlock = some w2.heap.size) : LsSt w w' v' (L ++ [x]) b := by
  have hps : ∀ z : Rm, OwnE EP w2 (w.heap.size + 1) z.sl z.r.ps → (∀ k, z.sl.ownBlock = some k → v.ownBlock ≠ some k) → OwnE EP w' (w.heap.size + 1) z.sl z.r.ps ∧ ∀ k, z.sl.ownBlock = some k → v'.ownBlock ≠ some k := fun z h1 h2 =>
    ⟨h1.far hg h2, fun k hk => by
      rcases hat with e | e
      · rw [e]; exact h2 k hk
      · rw [e]; intro e2; injection e2 with e2; have := h1.lt k hk; omega⟩
  refine ⟨h.low.grown hg h.low.size (fun k e => by have := h.own.ge k e; omega), h.src.grown hg (fun k e => by have := h.own.ge k e; omega), ho, fun z hz => ?_⟩
  rcases List.mem_append.1 hz with hz | hz
  · exact ⟨(hps z (h.ps z hz).1 (h.ps z hz).2.1).1, (hps z (h.ps z hz).1 (h.ps z hz).2.1).2, (h.ps z hz).2.2⟩
  · rw [List.mem_singleton.1 hz]; exact ⟨(hps x hp hf).1, (hps x hp hf).2, hl⟩
theorem LsSt.recs (h : LsSt w wr v L b) : ∃ A c, v = .slice A L.length c ∧ RecsAt wr A L := by
  obtain ⟨A, c, e, ha⟩ := h.own.at
  refine ⟨A, c, e, ha, fun x hx => ?_, fun x hx => (h.ps x hx).2.2⟩
  obtain ⟨A', c', e2, h2⟩ := (h.ps x hx).1.at
  injection e2 with e2
  rw [e2]; exact h2
end
theorem same_at {L M : List Rm} {s : Int} (h : M.map (·.r) = L.map fun x => ({ x.r with se := s } : Rc)) {k : Nat} (hk : k < L.length) (hk2 : k < M.length) : (M[k]).r = { (L[k]).r with se := s } := by
  have := congrArg (fun l : List Rc => l[k]?) h
  simpa [hk, hk2] using this
end Go.Proofs.YtollifnnpihfdaaGreatDoor
/- The source of numbers of package kauditmake: Text, Name, Path. -/
namespace Go.Proofs.YtollifnnpihfdaaGreatDoor
open Go.RowKit
theorem SPost.more {w w' : World} {base g : Nat} {b b' : Int} {m m' : Nat} {e : Ending} (h : SPost w base g b m e w') (hb : b ≤ b') (hm : m ≤ m') : SPost w base g b' m' e w' := by
  obtain ⟨x, h1, h2, h3, h4⟩ := h
  exact ⟨x, h1, by omega, h3.more hb, h4⟩
set_option maxHeartbeats 1000000 in
theorem src_name (w : World) (base g : Nat) (b : Int) (h : SrcOk w base g b) (hb : b ≤ 100000000000000) :
    Calls Tryz.prog 108 #[.pointer (some ⟨g, 0, none⟩)] w (SPost w base g (b + 2) 13) := by
  have H := Lib.hid h
  have HB := Lib.hid hb
  clear h hb
  go_enter Tryz.func108, Tryz.ntmps108
  go_wp2_with fail
  refine (src_n _ base g b _ H.out (by have := HB.out; omega) (by omega) (by omega)).mono ?_
  rintro e w1 ⟨x, rfl, hx0, hx1, hs, hg⟩
  have HS := Lib.hid hs
  have hlt : g < w1.heap.size := src_lt hs
  clear hs
  by_cases hx : x = 19
  · have hxb : (x == 19) = true := by simpa using hx
    clear hx
    go_wp2_with fail
    refine (src_word _ base g w1.heap.size (b + 1) 8 13 _ 9 (0, 0) (HS.out.alloc _) (by have := HB.out; omega) (heap_alloc_new w1 _) (by omega) rfl (by omega) (by omega) rfl).mono ?_
    rintro e w2 ⟨y, rfl, hym, hs2, hg2⟩
    have HS2 := Lib.hid hs2
    clear hs2
    go_wp2_with fail
    go_ret
    exact ⟨_, rfl, hym, HS2.out.more (by omega), (only_alloc hg _).trans hg2⟩
  · have hxb : (x == 19) = false := by simpa using hx
    clear hx
    go_wp2_with fail
    refine (src_word _ base g w1.heap.size (b + 1) 6 13 _ 9 (0, 0) (HS.out.alloc _) (by have := HB.out; omega) (heap_alloc_new w1 _) (by omega) rfl (by omega) (by omega) rfl).mono ?_
    rintro e w2 ⟨y, rfl, hym, hs2, hg2⟩
    have HS2 := Lib.hid hs2
    clear hs2
    go_wp2_with fail
    go_ret
    exact ⟨_, rfl, hym, HS2.out.more (by omega), (only_alloc hg _).trans hg2⟩
set_option maxRecDepth 100000 in
set_option maxHeartbeats 4000000 in
theorem src_path (w : World) (base g : Nat) (b : Int) (h : SrcOk w base g b) (hb : b ≤ 10000000000000) :
    Calls Tryz.prog 88 #[.pointer (some ⟨g, 0, none⟩)] w (SPost w base g (b + 20) 60) := by
  have H := Lib.hid h
  have HB := Lib.hid hb
  clear h hb
  go_enter Tryz.func88, Tryz.ntmps88
  go_wp2_with fail
  refine (src_n _ base g b _ H.out (by have := HB.out; omega) (by omega) (by omega)).mono ?_
  rintro e w1 ⟨x, rfl, hx0, hx1, hs, hg⟩
  have HS := Lib.hid hs
  have hlt1 : g < w1.heap.size := src_lt hs
  clear hs
  go_wp2_with fail
  all_goals
    refine (src_pick _ base g w1.heap.size (b + 1) 7 0 4 _ 3 (0, 0) (HS.out.alloc _) (by have := HB.out; omega) (heap_alloc_new w1 _) (by omega) rfl (by omega) (by omega) rfl).mono ?_
    rintro e w2 ⟨n, rfl, hn0, hn1, hs2, hg2⟩
    obtain ⟨n0, rfl⟩ := Int.eq_ofNat_of_zero_le hn0
    have HS2 := Lib.hid hs2
    have hgf := (only_alloc hg (.cells #[.int .i64 1, .int .i64 1, .int .i64 2, .int .i64 2, .int .i64 3, .int .i64 0, .int .i64 4] 3)).trans hg2
    clear hs2 hg2 hg
    go_wp2_with fail
    go_loopw [3, 5] (fun v i wr => ∃ (T : ByteArray) (k : Nat), v = .string T ∧ i = .int .i64 (k : Int) ∧ k ≤ n0 ∧ T.size ≤ 1 + 14 * k ∧ w.grownBy wr (some g) ∧ Hid (SrcOk wr base g (b + 2 + 3 * k))) (fun _ i _ => n0 - (intOf i).toNat)
    case atStart => exact ⟨_, 0, rfl, rfl, Nat.zero_le _, by decide, hgf, HS2.out.more (by omega)⟩
    case round =>
      obtain ⟨T, k, rfl, rfl, hk, hT, hgr, hsr⟩ := hrel
      clear hgf HS2 HS
      have hT4 : T.size ≤ 100 := by omega
      by_cases hkn : k < n0
      · by_cases hk0 : 0 < k
        all_goals
          go_wp2_with fail
          refine (src_n _ base g (b + 2 + 3 * k) _ hsr.out (by have := HB.out; omega) (by omega) (by omega)).mono ?_
          rintro e w3 ⟨y, rfl, hy0, hy1, hs3, hg3⟩
          have HS3 := Lib.hid hs3
          have hg3' := hgr.trans hg3
          have hlt3 : g < w3.heap.size := src_lt hs3
          clear hs3 hg3
          by_cases hy : y = 7
          · have hyb : (y == 7) = true := by simpa using hy
            clear hy
            go_wp2_with fail
            refine (src_word _ base g w3.heap.size (b + 2 + 3 * k + 1) 4 13 _ 9 (0, 0) (HS3.out.alloc _) (by have := HB.out; omega) (heap_alloc_new w3 _) (by omega) rfl (by omega) (by omega) rfl).mono ?_
            rintro e w4 ⟨z, rfl, hzm, hs4, hg4⟩
            have HS4 := Lib.hid hs4
            have hg4' := (only_alloc hg3' (.cells #[.string ⟨#[46]⟩, .string ⟨#[46, 46]⟩, .string ⟨#[]⟩, .string ⟨#[97, 47, 47, 98]⟩] 9)).trans hg4
            clear hs4 hg4
            go_wp2_with fail
            go_roundw
            case rel => exact ⟨_, k + 1, rfl, by go_num, by omega, by simp only [ByteArray.size_append]; first | omega | (show _ + 1 + _ ≤ _; omega), hg4', HS4.out.more (by omega)⟩
            case measure => simp [intOf]; omega
          · have hyb : (y == 7) = false := by simpa using hy
            clear hy
            go_wp2_with fail
            refine (src_name _ base g (b + 2 + 3 * k + 1) HS3.out (by have := HB.out; omega)).mono ?_
            rintro e w4 ⟨z, rfl, hzm, hs4, hg4⟩
            have HS4 := Lib.hid hs4
            have hg4' := hg3'.trans hg4
            clear hs4 hg4
            go_wp2_with fail
            go_roundw
            case rel => exact ⟨_, k + 1, rfl, by go_num, by omega, by simp only [ByteArray.size_append]; first | omega | (show _ + 1 + _ ≤ _; omega), hg4', HS4.out.more (by omega)⟩
            case measure => simp [intOf]; omega
      · go_wp2_with fail
        refine (src_n _ base g (b + 2 + 3 * k) _ hsr.out (by have := HB.out; omega) (by omega) (by omega)).mono ?_
        rintro e w3 ⟨y, rfl, hy0, hy1, hs3, hg3⟩
        have HS3 := Lib.hid hs3
        have hg3' := hgr.trans hg3
        clear hs3 hg3
        by_cases hy : y = 7
        · have hyb : (y == 7) = true := by simpa using hy
          clear hy
          go_wp2_with fail
          go_ret
          exact ⟨_, rfl, by rw [ByteArray.size_append]; show _ + 1 ≤ _; omega, HS3.out.more (by omega), hg3'⟩
        · have hyb : (y == 7) = false := by simpa using hy
          clear hy
          go_wp2_with fail
          go_ret
          exact ⟨_, rfl, by omega, HS3.out.more (by omega), hg3'⟩
end Go.Proofs.YtollifnnpihfdaaGreatDoor
/- holds of the program; number, has, one of the reference. -/
namespace Go.Proofs.YtollifnnpihfdaaGreatDoor
open Go.RowKit
attribute [local irreducible] ctxC itemC textB
theorem box3 (w : World) (fd op nu : Int) (tx : ByteArray) (ot : Int) (c : Ctx) (r : CRest) (it : Value) (i : Itm) (ir : IRest) :
    TestB (((w.alloc (.cells (testC fd op nu tx ot) 85)).alloc (.cells (ctxC c r it) 54)).alloc (.cells (itemC i ir) 73)) w.heap.size fd op nu tx ot ∧
    CtxB (((w.alloc (.cells (testC fd op nu tx ot) 85)).alloc (.cells (ctxC c r it) 54)).alloc (.cells (itemC i ir) 73)) (w.heap.size + 1) c r it ∧
    ItmB (((w.alloc (.cells (testC fd op nu tx ot) 85)).alloc (.cells (ctxC c r it) 54)).alloc (.cells (itemC i ir) 73)) (w.heap.size + 1 + 1) i ir ∧
    Below w.heap.size w (((w.alloc (.cells (testC fd op nu tx ot) 85)).alloc (.cells (ctxC c r it) 54)).alloc (.cells (itemC i ir) 73)) := by
  refine ⟨((Blk.new w _ _).alloc _).alloc _, ?_, ?_, (((Below.refl _ _).alloc (Nat.le_refl _) _).alloc (by simp) _).alloc (by simp; omega) _⟩
  · have := (Blk.new (w.alloc (.cells (testC fd op nu tx ot) 85)) (ctxC c r it) 54).alloc (.cells (itemC i ir) 73)
    simpa using this
  · have := Blk.new ((w.alloc (.cells (testC fd op nu tx ot) 85)).alloc (.cells (ctxC c r it) 54)) (itemC i ir) 73
    simpa using this
theorem holdsP_text {c : Ctx} {fd op nu : Int} {tx : ByteArray} {ot : Int} {i : Itm} (h : textB fd = true) : holdsP c fd op nu tx ot i = (((if fd = 14 then c.comm else c.exe).toList == tx.toList) == decide (op = 1)) := by
  unfold holdsP holdsF; rw [if_neg (by rw [h]; simp), if_pos h]
theorem holdsP_no {c : Ctx} {fd op nu : Int} {tx : ByteArray} {ot : Int} {i : Itm} (h : textB fd = false) (k : hasF c fd = false ∨ (ot ≠ 0 ∧ hasF c ot = false)) : holdsP c fd op nu tx ot i = false := by
  unfold holdsP; rw [if_pos ⟨h, k⟩]
theorem holdsP_num {c : Ctx} {fd op nu : Int} {tx : ByteArray} {ot : Int} {i : Itm} (h : textB fd = false) (h1 : hasF c fd = true) (h2 : ot = 0 ∨ hasF c ot = true) : holdsP c fd op nu tx ot i = cmpF op (numP c i fd) (if ot = 0 then nu else numP c i ot) := by
  unfold holdsP holdsF
  rw [if_neg (by rintro ⟨_, k | k⟩; rw [h1] at k; cases k; rcases h2 with h2 | h2; exact k.1 h2; rw [h2] at k; cases k.2), if_neg (by rw [h]; decide), numP_yes h1]
  by_cases h0 : ot = 0
  · rw [if_pos h0, if_pos h0]
  · rw [if_neg h0, if_neg h0, numP_yes (h2.resolve_left h0)]
theorem deq (a b : Int) : decide (a = b) = (a == b) := by by_cases h : a = b <;> simp [h]
theorem textB_vals {fd : Int} (h : textB fd = true) : fd = 13 ∨ fd = 14 := by unfold textB at h; simpa using h
theorem textB_no {fd : Int} (h : textB fd = false) : fd ≠ 13 ∧ fd ≠ 14 := by unfold textB at h; simpa using h
attribute [local irreducible] hasF numP cmpF
set_option maxRecDepth 100000 in
set_option maxHeartbeats 4000000 in
theorem vholdsF (c : Ctx) (r : CRest) (it : Value) (fd op nu : Int) (tx : ByteArray) (ot : Int) (i : Itm) (ir : IRest) (hf : 1 ≤ fd ∧ fd ≤ 22) (ho : 1 ≤ op ∧ op ≤ 8) (hot : ot = 0 ∨ ((1 ≤ ot ∧ ot ≤ 22) ∧ ot ≠ 13 ∧ ot ≠ 14)) (w : World) :
    Calls Tryz.prog 276 #[testV fd op nu tx ot, ctxV c r it, itemV i ir] w fun e w' => e = .returned (.bool (holdsP c fd op nu tx ot i)) ∧ Below w.heap.size w w' := by
  obtain ⟨hT, hC, hI, hB⟩ := box3 w fd op nu tx ot c r it i ir
  have HT := Lib.hid hT
  have HC := Lib.hid hC
  have HI := Lib.hid hI
  have HB := Lib.hid hB
  have CM := Lib.hid (fun a b W => vcmpF op a b ho W)
  have q0 := hT.c0
  have q1 := hT.c1
  have q2 := hT.c2
  have q3 := hT.c3
  have q4 := hT.c4
  have qc := hC.comm
  have qe := hC.exe
  clear hT hC hI hB ho
  cases ht : textB fd
  · have HTX := Lib.hid ht
    have HV := Lib.hid (fun W => vtextF fd W)
    obtain ⟨n13, n14⟩ := textB_no ht
    have CF := Lib.hid (fun W => vnumberF c r it i ir fd hf n13 n14 W)
    rw [ht] at HV
    clear hf ht n13 n14 qc qe
    go_enter Tryz.func276, Tryz.ntmps276
    go_wp2_with fail
    refine (HV.out _).mono ?_
    rintro e w1 ⟨rfl, rfl⟩
    go_wp2_with (first | ((with_reducible refine load_blk ?_ 54 (.tmp 4) ?_ HC.out ?_ _ Tryz.underlying54 ?_ ?_ ?_); (iterate 4 rfl); exact ctx_sz _ _ _) | ((with_reducible refine load_blk ?_ 73 (.tmp 5) ?_ HI.out ?_ _ Tryz.underlying73 ?_ ?_ ?_); (iterate 4 rfl); exact item_sz _ _))
    refine (CF.out _).mono ?_
    rintro e w1 ⟨rfl, hb⟩
    have hT1 : TestB w1 w.heap.size fd op nu tx ot := HT.out.below hb
    have HC1 := Lib.hid (HC.out.below hb)
    have HI1 := Lib.hid (HI.out.below hb)
    have HB1 := Lib.hid (HB.out.trans (hb.mono HB.out.size))
    clear q0 q1 q2 q3 q4 HT HC HI HB hb
    have q0 := hT1.c0
    have q1 := hT1.c1
    have q2 := hT1.c2
    have q3 := hT1.c3
    have q4 := hT1.c4
    have HT1 := Lib.hid hT1
    clear hT1
    cases h1 : hasF c fd
    · have HE := Lib.hid (holdsP_no (op := op) (nu := nu) (tx := tx) (ot := ot) (i := i) HTX.out (.inl h1))
      clear h1
      go_wp2_with fail
      go_ret
      exact ⟨ret_b HE.out.symm, HB1.out⟩
    · by_cases h0 : ot = 0
      · subst h0
        have HE := Lib.hid (holdsP_num (op := op) (nu := nu) (tx := tx) (ot := 0) (i := i) HTX.out h1 (.inl rfl))
        rw [if_pos rfl] at HE
        clear h1
        go_wp2_with fail
        refine (CM.out _ _ _).mono ?_
        rintro e w2 ⟨rfl, rfl⟩
        go_wp2_with fail
        go_ret
        exact ⟨ret_b HE.out.symm, HB1.out⟩
      · obtain ⟨o1, o2, o3⟩ := hot.resolve_left h0
        have CO := Lib.hid (fun W => vnumberF c r it i ir ot o1 o2 o3 W)
        have b0 : (ot != 0) = true := by simpa using h0
        have H0 := Lib.hid h0
        have H1 := Lib.hid h1
        clear hot o1 o2 o3 h0 h1
        go_wp2_with (first | ((with_reducible refine load_blk ?_ 54 (.tmp 4) ?_ HC1.out ?_ _ Tryz.underlying54 ?_ ?_ ?_); (iterate 4 rfl); exact ctx_sz _ _ _) | ((with_reducible refine load_blk ?_ 73 (.tmp 5) ?_ HI1.out ?_ _ Tryz.underlying73 ?_ ?_ ?_); (iterate 4 rfl); exact item_sz _ _))
        refine (CO.out _).mono ?_
        rintro e w2 ⟨rfl, hb⟩
        have HB2 := Lib.hid (below_then HB1.out hb)
        have k1 := (show TestB w2 w.heap.size fd op nu tx ot from HT1.out.below hb).c1
        cases h2 : hasF c ot
        · have HE := Lib.hid (holdsP_no (op := op) (nu := nu) (tx := tx) (i := i) HTX.out (.inr ⟨H0.out, h2⟩))
          clear h2
          go_wp2_with fail
          go_ret
          exact ⟨ret_b HE.out.symm, HB2.out⟩
        · have HE := Lib.hid (holdsP_num (op := op) (nu := nu) (tx := tx) (i := i) HTX.out H1.out (.inr h2))
          rw [if_neg H0.out] at HE
          clear h2
          go_wp2_with fail
          refine (CM.out _ _ _).mono ?_
          rintro e w3 ⟨rfl, rfl⟩
          go_wp2_with fail
          go_ret
          exact ⟨ret_b HE.out.symm, HB2.out⟩
  · have HV := Lib.hid (fun W => vtextF fd W)
    rw [ht] at HV
    have HE := Lib.hid (holdsP_text (c := c) (op := op) (nu := nu) (tx := tx) (ot := ot) (i := i) ht)
    have hv := textB_vals ht
    clear hf hot ht CM
    rcases hv with rfl | rfl
    all_goals
      go_enter Tryz.func276, Tryz.ntmps276
      go_wp2_with fail
      refine (HV.out _).mono ?_
      rintro e w1 ⟨rfl, rfl⟩
      go_wp2_with fail
      go_ret
      exact ⟨ret_b (by rw [HE.out, deq]; simp), HB.out⟩
end Go.Proofs.YtollifnnpihfdaaGreatDoor

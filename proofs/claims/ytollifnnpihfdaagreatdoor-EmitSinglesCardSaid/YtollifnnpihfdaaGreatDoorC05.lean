/- Texts of one proof, laid together. -/
import Derived.Test.YtollifnnpihfdaaGreatDoorC04
import Derived.Deep.RegionHeld
import Derived.Test.YtollifnnpihfdaaGreatDoorC01
import Derived.Test.YtollifnnpihfdaaGreatDoorProg
import Derived.Lib.ItoaNum
import Derived.Lib.Hide
import Derived.WalkSpells
import Derived.LoopTactic
import Derived.Outline
import Derived.WalkLawsBesides
/- Loss of package emit and of the reference: the record of a loss. -/
namespace Go.Proofs.YtollifnnpihfdaaGreatDoor
open Go.RowKit
theorem row_newEl {α : Type} (E : El α) (w : World) (cs : Array Value) (t : TypeId) (L : List α) (h : cs.toList = L.flatMap E.C) {B : Nat} (hB : w.heap.size < B) : AtE E (w.alloc (.cells cs t)) B (some ⟨w.heap.size, 0, none⟩) L := fun k hk => by
  refine ⟨_, rfl, hB, fun j hj => ?_⟩
  rw [addE_at, (Blk.new w cs t).cell, ← Array.getElem?_toList, h, E.flat_at L k hk j hj]
theorem rc_retN {fn : Func} {n : Nat} (h : fn.results = #[.cell n 77]) (tmps : Array Value) (w : World) (g : Nat) (r : Rc) (s : Value) (hp : tmps.getD n undef = .pointer (some ⟨g, 0, none⟩)) (hg : Blk w g 77 (rcC r s)) :
    (results fn tmps).run Tryz.prog w = .ok (rcV r s) w :=
  results_cell_row h tmps w g _ (rcC r s) (0, 0) _ hp hg Tryz.underlying77 rfl (by show _ = some 4; kernel_rfl)
/-- A record is returned; its pairs are new. -/
def RetR (R : Rc) (w : World) (e : Ending) (w' : World) : Prop := ∃ (A : Option Addr) (c : Nat), e = .returned (rcV R (.slice A R.ps.length c)) ∧ AtE EP w' w'.heap.size A R.ps ∧ Below w.heap.size w w'
abbrev zrC : Array Value := #[.int .i64 0, .int .i64 0, .int .i64 0, .slice none 0 0]
abbrev loC (a : Nat → Int) : Array Value := #[.int .i64 (a 0), .int .i64 (a 1), .int .i64 (a 2), .int .i64 (a 3), .int .i64 (a 4)]
abbrev loL (a : Nat → Int) : List Pr := [⟨⟨#[102, 105, 114, 115, 116]⟩, 1, a 0, ⟨#[]⟩⟩, ⟨⟨#[108, 97, 115, 116]⟩, 1, a 1, ⟨#[]⟩⟩, ⟨⟨#[114, 97, 116, 101, 100]⟩, 1, a 2, ⟨#[]⟩⟩, ⟨⟨#[102, 117, 108, 108]⟩, 1, a 3, ⟨#[]⟩⟩, ⟨⟨#[115, 116, 97, 108, 108, 101, 100]⟩, 1, a 4, ⟨#[]⟩⟩]
abbrev loP (a : Nat → Int) : Array Value := #[.string ⟨#[102, 105, 114, 115, 116]⟩, .int .i64 1, .int .i64 (a 0), .string ⟨#[]⟩, .string ⟨#[108, 97, 115, 116]⟩, .int .i64 1, .int .i64 (a 1), .string ⟨#[]⟩, .string ⟨#[114, 97, 116, 101, 100]⟩, .int .i64 1, .int .i64 (a 2), .string ⟨#[]⟩, .string ⟨#[102, 117, 108, 108]⟩, .int .i64 1, .int .i64 (a 3), .string ⟨#[]⟩, .string ⟨#[115, 116, 97, 108, 108, 101, 100]⟩, .int .i64 1, .int .i64 (a 4), .string ⟨#[]⟩]
def loR (a : Nat → Int) (t : Int) : Rc := ⟨1331, t, 0, loL a⟩
theorem row_blkEl {α : Type} (E : El α) {w : World} {g : Nat} {cs : Array Value} {t : TypeId} (hb : Blk w g t cs) (L : List α) (h : cs.toList = L.flatMap E.C) {B : Nat} (hB : g < B) : AtE E w B (some ⟨g, 0, none⟩) L := fun k hk => by
  refine ⟨_, rfl, hB, fun j hj => ?_⟩
  rw [addE_at, hb.cell, ← Array.getElem?_toList, h, E.flat_at L k hk j hj]
theorem rnumE (s : ByteArray) (n : Int) (w : World) : Calls Tryz.prog 55 #[.string s, .int .i64 n] w fun e w' => e = .returned (prV ⟨s, 1, n, ⟨#[]⟩⟩) ∧ Below w.heap.size w w' := rnumA s n w
set_option maxRecDepth 100000 in
set_option maxHeartbeats 4000000 in
theorem vloss (a : Nat → Int) (t : Int) (w : World) : Calls Tryz.prog 35 #[.agg (loC a), .int .i64 t] w (RetR (loR a t) w) := by
  have X2 := Lib.hid (show Blk ((w.alloc (.cells (loC a) 101)).alloc (.cells zrC 77)) w.heap.size 101 (loC a) from (Blk.new w (loC a) 101).alloc _)
  have hR0 : Blk ((w.alloc (.cells (loC a) 101)).alloc (.cells zrC 77)) (w.heap.size + 1) 77 zrC := by
    have := Blk.new (w.alloc (.cells (loC a) 101)) zrC 77
    simpa using this
  have hB0 : Below w.heap.size w ((w.alloc (.cells (loC a) 101)).alloc (.cells zrC 77)) := ((Below.refl _ _).alloc (Nat.le_refl _) _).alloc (by simp) _
  have HR := Lib.hid (Blk.below hR0 (Below.refl _ _).drew)
  have HB := Lib.hid hB0.drew
  clear hR0 hB0
  go_enter Tryz.func35, Tryz.ntmps35
  go_upto_region 1 with (fail)
  refine wp_region_held_drew (S := (fun w' => Blk w' w.heap.size 101 (loC a))) (by kernel_rfl) (Blk.below X2.out (Below.refl _ _).drew) (fun hHeld => ?_)
  clear X2
  refine wpAnyH_take (i := 0) (v := ?_) rfl (by kernel_rfl) (by kernel_rfl) (by kernel_rfl) (fun _ _ _ h => h) (Or.inl ⟨by kernel_rfl, ?_⟩) hHeld ?_
  rotate_left
  · intro w hSw
    go_simp
    first | (with_reducible rfl) | (rw [if_neg (by first | omega | (simp; omega))])
  refine wpAnyH_take (i := 1) (v := ?_) rfl (by kernel_rfl) (by kernel_rfl) (by kernel_rfl) (fun _ _ _ h => h) (Or.inl ⟨by kernel_rfl, ?_⟩) hHeld ?_
  rotate_left
  · intro w hSw
    go_simp
    first | (with_reducible rfl) | (rw [if_neg (by first | omega | (simp; omega))])
  refine wpAnyH_take (i := 2) (v := ?_) rfl (by kernel_rfl) (by kernel_rfl) (by kernel_rfl) (fun _ _ _ h => h) (Or.inl ⟨by kernel_rfl, ?_⟩) hHeld ?_
  rotate_left
  · intro w hSw
    have kk := hSw.cell 0
    go_simp
    first | (with_reducible rfl) | (rw [if_neg (by first | omega | (simp; omega))])
  refine wpAnyH_take (i := 4) (v := ?_) rfl (by kernel_rfl) (by kernel_rfl) (by kernel_rfl) (fun _ _ _ h => h) (Or.inl ⟨by kernel_rfl, ?_⟩) hHeld ?_
  rotate_left
  · intro w hSw
    go_simp
    first | (with_reducible rfl) | (rw [if_neg (by first | omega | (simp; omega))])
  refine wpAnyH_take (i := 5) (v := ?_) rfl (by kernel_rfl) (by kernel_rfl) (by kernel_rfl) (fun _ _ _ h => h) (Or.inl ⟨by kernel_rfl, ?_⟩) hHeld ?_
  rotate_left
  · intro w hSw
    have kk := hSw.cell 1
    go_simp
    first | (with_reducible rfl) | (rw [if_neg (by first | omega | (simp; omega))])
  refine wpAnyH_take (i := 7) (v := ?_) rfl (by kernel_rfl) (by kernel_rfl) (by kernel_rfl) (fun _ _ _ h => h) (Or.inl ⟨by kernel_rfl, ?_⟩) hHeld ?_
  rotate_left
  · intro w hSw
    go_simp
    first | (with_reducible rfl) | (rw [if_neg (by first | omega | (simp; omega))])
  refine wpAnyH_take (i := 8) (v := ?_) rfl (by kernel_rfl) (by kernel_rfl) (by kernel_rfl) (fun _ _ _ h => h) (Or.inl ⟨by kernel_rfl, ?_⟩) hHeld ?_
  rotate_left
  · intro w hSw
    have kk := hSw.cell 2
    go_simp
    first | (with_reducible rfl) | (rw [if_neg (by first | omega | (simp; omega))])
  refine wpAnyH_take (i := 10) (v := ?_) rfl (by kernel_rfl) (by kernel_rfl) (by kernel_rfl) (fun _ _ _ h => h) (Or.inl ⟨by kernel_rfl, ?_⟩) hHeld ?_
  rotate_left
  · intro w hSw
    go_simp
    first | (with_reducible rfl) | (rw [if_neg (by first | omega | (simp; omega))])
  refine wpAnyH_take (i := 11) (v := ?_) rfl (by kernel_rfl) (by kernel_rfl) (by kernel_rfl) (fun _ _ _ h => h) (Or.inl ⟨by kernel_rfl, ?_⟩) hHeld ?_
  rotate_left
  · intro w hSw
    have kk := hSw.cell 3
    go_simp
    first | (with_reducible rfl) | (rw [if_neg (by first | omega | (simp; omega))])
  refine wpAnyH_take (i := 13) (v := ?_) rfl (by kernel_rfl) (by kernel_rfl) (by kernel_rfl) (fun _ _ _ h => h) (Or.inl ⟨by kernel_rfl, ?_⟩) hHeld ?_
  rotate_left
  · intro w hSw
    go_simp
    first | (with_reducible rfl) | (rw [if_neg (by first | omega | (simp; omega))])
  refine wpAnyH_take (i := 14) (v := ?_) rfl (by kernel_rfl) (by kernel_rfl) (by kernel_rfl) (fun _ _ _ h => h) (Or.inl ⟨by kernel_rfl, ?_⟩) hHeld ?_
  rotate_left
  · intro w hSw
    have kk := hSw.cell 4
    go_simp
    first | (with_reducible rfl) | (rw [if_neg (by first | omega | (simp; omega))])
  refine wpAnyH_ready (rs := [3]) (by kernel_rfl) (by simp) ?_
  refine AllReadyH.cons rfl (fun K hK => ?_) AllReadyH.nil
  go_simp
  go_at_call 48
  refine (vnumE _ _ _).mono ?_
  rintro e wl ⟨rfl, hb⟩
  have HR := Lib.hid (Blk.below HR.out hb)
  have HB := Lib.hid (below_then HB.out hb)
  have hh := Blk.below hHeld hb
  clear hb
  go_simp
  refine hK.out _ _ hh (fun hHeld => ?_)
  clear hK K
  clear hh
  refine wpAnyH_ready (rs := [6]) (by kernel_rfl) (by simp) ?_
  refine AllReadyH.cons rfl (fun K hK => ?_) AllReadyH.nil
  go_simp
  go_at_call 48
  refine (vnumE _ _ _).mono ?_
  rintro e wl ⟨rfl, hb⟩
  have HR := Lib.hid (Blk.below HR.out hb)
  have HB := Lib.hid (below_then HB.out hb)
  have hh := Blk.below hHeld hb
  clear hb
  go_simp
  refine hK.out _ _ hh (fun hHeld => ?_)
  clear hK K
  clear hh
  refine wpAnyH_ready (rs := [9]) (by kernel_rfl) (by simp) ?_
  refine AllReadyH.cons rfl (fun K hK => ?_) AllReadyH.nil
  go_simp
  go_at_call 48
  refine (vnumE _ _ _).mono ?_
  rintro e wl ⟨rfl, hb⟩
  have HR := Lib.hid (Blk.below HR.out hb)
  have HB := Lib.hid (below_then HB.out hb)
  have hh := Blk.below hHeld hb
  clear hb
  go_simp
  refine hK.out _ _ hh (fun hHeld => ?_)
  clear hK K
  clear hh
  refine wpAnyH_ready (rs := [12]) (by kernel_rfl) (by simp) ?_
  refine AllReadyH.cons rfl (fun K hK => ?_) AllReadyH.nil
  go_simp
  go_at_call 48
  refine (vnumE _ _ _).mono ?_
  rintro e wl ⟨rfl, hb⟩
  have HR := Lib.hid (Blk.below HR.out hb)
  have HB := Lib.hid (below_then HB.out hb)
  have hh := Blk.below hHeld hb
  clear hb
  go_simp
  refine hK.out _ _ hh (fun hHeld => ?_)
  clear hK K
  clear hh
  refine wpAnyH_ready (rs := [15]) (by kernel_rfl) (by simp) ?_
  refine AllReadyH.cons rfl (fun K hK => ?_) AllReadyH.nil
  go_simp
  go_at_call 48
  refine (vnumE _ _ _).mono ?_
  rintro e wl ⟨rfl, hb⟩
  have HR := Lib.hid (Blk.below HR.out hb)
  have HB := Lib.hid (below_then HB.out hb)
  have hh := Blk.below hHeld hb
  clear hb
  go_simp
  refine hK.out _ _ hh (fun hHeld => ?_)
  clear hK K
  clear hh
  have HRl := HR
  refine wpAnyH_ready (rs := [16]) (by kernel_rfl) (by simp) ?_
  refine AllReadyH.cons rfl (fun K hK => ?_) AllReadyH.nil
  have HR := Lib.hid (HR.out.alloc (.cells (loP a) 79))
  have HB := Lib.hid (HB.out.alloc HB.out.size (.cells (loP a) 79))
  have RW := Lib.hid (row_newEl EP wl (loP a) 79 (loL a) rfl (Nat.lt_succ_self wl.heap.size))
  have hh := Blk.alloc hHeld (.cells (loP a) 79)
  go_simp
  refine hK.out _ _ hh (fun hHeld => ?_)
  clear hK K
  clear hh
  refine wpAnyH_take (i := 17) (v := ?_) rfl (by kernel_rfl) (by kernel_rfl) (by kernel_rfl) (fun _ _ _ h => h) (Or.inl ⟨by kernel_rfl, ?_⟩) hHeld ?_
  rotate_left
  · intro w hSw
    go_simp
    first | (with_reducible rfl) | (rw [if_neg (by first | omega | (simp; omega))])
  have g0 : w.heap.size ≠ w.heap.size + 1 := by omega
  have g1 : wl.heap.size ≠ w.heap.size + 1 := by have h1 := HR.out.lt; have h2 := Below.size HB.out; have h3 := hHeld.lt; have h4 := HRl.out.lt; omega
  refine wpAnyH_ready (rs := [18]) (by kernel_rfl) (by simp) ?_
  refine AllReadyH.cons rfl (fun K hK => ?_) AllReadyH.nil
  have c0 : (wl.alloc (.cells (loP a) 79)).cell? ⟨w.heap.size + 1, 0, none⟩ = some (.int .i64 0) := HR.out.cell 0
  have c1 : (wl.alloc (.cells (loP a) 79)).cell? ⟨w.heap.size + 1, 1, none⟩ = some (.int .i64 0) := HR.out.cell 1
  have c2 : (wl.alloc (.cells (loP a) 79)).cell? ⟨w.heap.size + 1, 2, none⟩ = some (.int .i64 0) := HR.out.cell 2
  have c3 : (wl.alloc (.cells (loP a) 79)).cell? ⟨w.heap.size + 1, 3, none⟩ = some (.slice none 0 0) := HR.out.cell 3
  have f0 : (wl.alloc (.cells (loP a) 79)).frozen? ⟨w.heap.size + 1, 0, none⟩ = false := HR.out.free 0
  have f1 : (wl.alloc (.cells (loP a) 79)).frozen? ⟨w.heap.size + 1, 1, none⟩ = false := HR.out.free 1
  have f2 : (wl.alloc (.cells (loP a) 79)).frozen? ⟨w.heap.size + 1, 2, none⟩ = false := HR.out.free 2
  have f3 : (wl.alloc (.cells (loP a) 79)).frozen? ⟨w.heap.size + 1, 3, none⟩ = false := HR.out.free 3
  have hh := (Blk.put_other (p := ⟨w.heap.size + 1, 3, none⟩) (Blk.put_other (p := ⟨w.heap.size + 1, 2, none⟩) (Blk.put_other (p := ⟨w.heap.size + 1, 1, none⟩) (Blk.put_other (p := ⟨w.heap.size + 1, 0, none⟩) hHeld (.int .i64 1331) g0) (.int .i64 t) g0) (.int .i64 0) g0) (.slice (some ⟨wl.heap.size, 0, none⟩) 5 5) g0)
  have HRz := Lib.hid (((((HR.out).put 0 (.int .i64 1331)).put 1 (.int .i64 t)).put 2 (.int .i64 0)).put 3 (.slice (some ⟨wl.heap.size, 0, none⟩) 5 5))
  have HPz := Lib.hid ((Blk.put_other (p := ⟨w.heap.size + 1, 3, none⟩) (Blk.put_other (p := ⟨w.heap.size + 1, 2, none⟩) (Blk.put_other (p := ⟨w.heap.size + 1, 1, none⟩) (Blk.put_other (p := ⟨w.heap.size + 1, 0, none⟩) (Blk.new wl (loP a) 79) (.int .i64 1331) g1) (.int .i64 t) g1) (.int .i64 0) g1) (.slice (some ⟨wl.heap.size, 0, none⟩) 5 5) g1))
  have HBz := Lib.hid (HB.out.grown ((only_setCell (p := ⟨w.heap.size + 1, 3, none⟩) (only_setCell (p := ⟨w.heap.size + 1, 2, none⟩) (only_setCell (p := ⟨w.heap.size + 1, 1, none⟩) (only_setCell (p := ⟨w.heap.size + 1, 0, none⟩) (show (wl.alloc (.cells (loP a) 79)).grownBy (wl.alloc (.cells (loP a) 79)) (some (w.heap.size + 1)) from ⟨rfl, rfl, rfl, Nat.le_refl _, fun i hi _ => rfl⟩) (.inl rfl) (.int .i64 1331)) (.inl rfl) (.int .i64 t)) (.inl rfl) (.int .i64 0)) (.inl rfl) (.slice (some ⟨wl.heap.size, 0, none⟩) 5 5))) HB.out.size (fun k e => by injection e with e; omega))
  go_simp
  refine hK.out _ _ hh (fun hHeld => ?_)
  clear hK K
  clear hh c0 c1 c2 c3 f0 f1 f2 f3
  refine wpAnyH_done (by kernel_rfl) ?_ _
  go_wp2_with fail
  refine bodyPost_ret (rc_retN (n := 4) (fn := Tryz.f35) rfl _ _ (w.heap.size + 1) (loR a t) (.slice (some ⟨wl.heap.size, 0, none⟩) 5 5) rfl HRz.out) rfl ?_
  exact ⟨some ⟨wl.heap.size, 0, none⟩, 5, rfl, row_blkEl EP HPz.out (loL a) rfl HPz.out.lt, HBz.out⟩
set_option maxRecDepth 100000 in
set_option maxHeartbeats 4000000 in
theorem rloss (a : Nat → Int) (t : Int) (w : World) : Calls Tryz.prog 36 #[.agg (loC a), .int .i64 t] w (RetR (loR a t) w) := by
  have X2 := Lib.hid (show Blk ((w.alloc (.cells (loC a) 101)).alloc (.cells zrC 77)) w.heap.size 101 (loC a) from (Blk.new w (loC a) 101).alloc _)
  have hR0 : Blk ((w.alloc (.cells (loC a) 101)).alloc (.cells zrC 77)) (w.heap.size + 1) 77 zrC := by
    have := Blk.new (w.alloc (.cells (loC a) 101)) zrC 77
    simpa using this
  have hB0 : Below w.heap.size w ((w.alloc (.cells (loC a) 101)).alloc (.cells zrC 77)) := ((Below.refl _ _).alloc (Nat.le_refl _) _).alloc (by simp) _
  have HR := Lib.hid (Blk.below hR0 (Below.refl _ _).drew)
  have HB := Lib.hid hB0.drew
  clear hR0 hB0
  go_enter Tryz.func36, Tryz.ntmps36
  go_upto_region 1 with (fail)
  refine wp_region_held_drew (S := (fun w' => Blk w' w.heap.size 101 (loC a))) (by kernel_rfl) (Blk.below X2.out (Below.refl _ _).drew) (fun hHeld => ?_)
  clear X2
  refine wpAnyH_take (i := 0) (v := ?_) rfl (by kernel_rfl) (by kernel_rfl) (by kernel_rfl) (fun _ _ _ h => h) (Or.inl ⟨by kernel_rfl, ?_⟩) hHeld ?_
  rotate_left
  · intro w hSw
    go_simp
    first | (with_reducible rfl) | (rw [if_neg (by first | omega | (simp; omega))])
  refine wpAnyH_take (i := 1) (v := ?_) rfl (by kernel_rfl) (by kernel_rfl) (by kernel_rfl) (fun _ _ _ h => h) (Or.inl ⟨by kernel_rfl, ?_⟩) hHeld ?_
  rotate_left
  · intro w hSw
    go_simp
    first | (with_reducible rfl) | (rw [if_neg (by first | omega | (simp; omega))])
  refine wpAnyH_take (i := 2) (v := ?_) rfl (by kernel_rfl) (by kernel_rfl) (by kernel_rfl) (fun _ _ _ h => h) (Or.inl ⟨by kernel_rfl, ?_⟩) hHeld ?_
  rotate_left
  · intro w hSw
    have kk := hSw.cell 0
    go_simp
    first | (with_reducible rfl) | (rw [if_neg (by first | omega | (simp; omega))])
  refine wpAnyH_take (i := 4) (v := ?_) rfl (by kernel_rfl) (by kernel_rfl) (by kernel_rfl) (fun _ _ _ h => h) (Or.inl ⟨by kernel_rfl, ?_⟩) hHeld ?_
  rotate_left
  · intro w hSw
    go_simp
    first | (with_reducible rfl) | (rw [if_neg (by first | omega | (simp; omega))])
  refine wpAnyH_take (i := 5) (v := ?_) rfl (by kernel_rfl) (by kernel_rfl) (by kernel_rfl) (fun _ _ _ h => h) (Or.inl ⟨by kernel_rfl, ?_⟩) hHeld ?_
  rotate_left
  · intro w hSw
    have kk := hSw.cell 1
    go_simp
    first | (with_reducible rfl) | (rw [if_neg (by first | omega | (simp; omega))])
  refine wpAnyH_take (i := 7) (v := ?_) rfl (by kernel_rfl) (by kernel_rfl) (by kernel_rfl) (fun _ _ _ h => h) (Or.inl ⟨by kernel_rfl, ?_⟩) hHeld ?_
  rotate_left
  · intro w hSw
    go_simp
    first | (with_reducible rfl) | (rw [if_neg (by first | omega | (simp; omega))])
  refine wpAnyH_take (i := 8) (v := ?_) rfl (by kernel_rfl) (by kernel_rfl) (by kernel_rfl) (fun _ _ _ h => h) (Or.inl ⟨by kernel_rfl, ?_⟩) hHeld ?_
  rotate_left
  · intro w hSw
    have kk := hSw.cell 2
    go_simp
    first | (with_reducible rfl) | (rw [if_neg (by first | omega | (simp; omega))])
  refine wpAnyH_take (i := 10) (v := ?_) rfl (by kernel_rfl) (by kernel_rfl) (by kernel_rfl) (fun _ _ _ h => h) (Or.inl ⟨by kernel_rfl, ?_⟩) hHeld ?_
  rotate_left
  · intro w hSw
    go_simp
    first | (with_reducible rfl) | (rw [if_neg (by first | omega | (simp; omega))])
  refine wpAnyH_take (i := 11) (v := ?_) rfl (by kernel_rfl) (by kernel_rfl) (by kernel_rfl) (fun _ _ _ h => h) (Or.inl ⟨by kernel_rfl, ?_⟩) hHeld ?_
  rotate_left
  · intro w hSw
    have kk := hSw.cell 3
    go_simp
    first | (with_reducible rfl) | (rw [if_neg (by first | omega | (simp; omega))])
  refine wpAnyH_take (i := 13) (v := ?_) rfl (by kernel_rfl) (by kernel_rfl) (by kernel_rfl) (fun _ _ _ h => h) (Or.inl ⟨by kernel_rfl, ?_⟩) hHeld ?_
  rotate_left
  · intro w hSw
    go_simp
    first | (with_reducible rfl) | (rw [if_neg (by first | omega | (simp; omega))])
  refine wpAnyH_take (i := 14) (v := ?_) rfl (by kernel_rfl) (by kernel_rfl) (by kernel_rfl) (fun _ _ _ h => h) (Or.inl ⟨by kernel_rfl, ?_⟩) hHeld ?_
  rotate_left
  · intro w hSw
    have kk := hSw.cell 4
    go_simp
    first | (with_reducible rfl) | (rw [if_neg (by first | omega | (simp; omega))])
  refine wpAnyH_ready (rs := [3]) (by kernel_rfl) (by simp) ?_
  refine AllReadyH.cons rfl (fun K hK => ?_) AllReadyH.nil
  go_simp
  go_at_call 55
  refine (rnumE _ _ _).mono ?_
  rintro e wl ⟨rfl, hb⟩
  have HR := Lib.hid (Blk.below HR.out hb)
  have HB := Lib.hid (below_then HB.out hb)
  have hh := Blk.below hHeld hb
  clear hb
  go_simp
  refine hK.out _ _ hh (fun hHeld => ?_)
  clear hK K
  clear hh
  refine wpAnyH_ready (rs := [6]) (by kernel_rfl) (by simp) ?_
  refine AllReadyH.cons rfl (fun K hK => ?_) AllReadyH.nil
  go_simp
  go_at_call 55
  refine (rnumE _ _ _).mono ?_
  rintro e wl ⟨rfl, hb⟩
  have HR := Lib.hid (Blk.below HR.out hb)
  have HB := Lib.hid (below_then HB.out hb)
  have hh := Blk.below hHeld hb
  clear hb
  go_simp
  refine hK.out _ _ hh (fun hHeld => ?_)
  clear hK K
  clear hh
  refine wpAnyH_ready (rs := [9]) (by kernel_rfl) (by simp) ?_
  refine AllReadyH.cons rfl (fun K hK => ?_) AllReadyH.nil
  go_simp
  go_at_call 55
  refine (rnumE _ _ _).mono ?_
  rintro e wl ⟨rfl, hb⟩
  have HR := Lib.hid (Blk.below HR.out hb)
  have HB := Lib.hid (below_then HB.out hb)
  have hh := Blk.below hHeld hb
  clear hb
  go_simp
  refine hK.out _ _ hh (fun hHeld => ?_)
  clear hK K
  clear hh
  refine wpAnyH_ready (rs := [12]) (by kernel_rfl) (by simp) ?_
  refine AllReadyH.cons rfl (fun K hK => ?_) AllReadyH.nil
  go_simp
  go_at_call 55
  refine (rnumE _ _ _).mono ?_
  rintro e wl ⟨rfl, hb⟩
  have HR := Lib.hid (Blk.below HR.out hb)
  have HB := Lib.hid (below_then HB.out hb)
  have hh := Blk.below hHeld hb
  clear hb
  go_simp
  refine hK.out _ _ hh (fun hHeld => ?_)
  clear hK K
  clear hh
  refine wpAnyH_ready (rs := [15]) (by kernel_rfl) (by simp) ?_
  refine AllReadyH.cons rfl (fun K hK => ?_) AllReadyH.nil
  go_simp
  go_at_call 55
  refine (rnumE _ _ _).mono ?_
  rintro e wl ⟨rfl, hb⟩
  have HR := Lib.hid (Blk.below HR.out hb)
  have HB := Lib.hid (below_then HB.out hb)
  have hh := Blk.below hHeld hb
  clear hb
  go_simp
  refine hK.out _ _ hh (fun hHeld => ?_)
  clear hK K
  clear hh
  have HRl := HR
  refine wpAnyH_ready (rs := [16]) (by kernel_rfl) (by simp) ?_
  refine AllReadyH.cons rfl (fun K hK => ?_) AllReadyH.nil
  have HR := Lib.hid (HR.out.alloc (.cells (loP a) 79))
  have HB := Lib.hid (HB.out.alloc HB.out.size (.cells (loP a) 79))
  have RW := Lib.hid (row_newEl EP wl (loP a) 79 (loL a) rfl (Nat.lt_succ_self wl.heap.size))
  have hh := Blk.alloc hHeld (.cells (loP a) 79)
  go_simp
  refine hK.out _ _ hh (fun hHeld => ?_)
  clear hK K
  clear hh
  refine wpAnyH_take (i := 17) (v := ?_) rfl (by kernel_rfl) (by kernel_rfl) (by kernel_rfl) (fun _ _ _ h => h) (Or.inl ⟨by kernel_rfl, ?_⟩) hHeld ?_
  rotate_left
  · intro w hSw
    go_simp
    first | (with_reducible rfl) | (rw [if_neg (by first | omega | (simp; omega))])
  have g0 : w.heap.size ≠ w.heap.size + 1 := by omega
  have g1 : wl.heap.size ≠ w.heap.size + 1 := by have h1 := HR.out.lt; have h2 := Below.size HB.out; have h3 := hHeld.lt; have h4 := HRl.out.lt; omega
  refine wpAnyH_ready (rs := [18]) (by kernel_rfl) (by simp) ?_
  refine AllReadyH.cons rfl (fun K hK => ?_) AllReadyH.nil
  have c0 : (wl.alloc (.cells (loP a) 79)).cell? ⟨w.heap.size + 1, 0, none⟩ = some (.int .i64 0) := HR.out.cell 0
  have c1 : (wl.alloc (.cells (loP a) 79)).cell? ⟨w.heap.size + 1, 1, none⟩ = some (.int .i64 0) := HR.out.cell 1
  have c2 : (wl.alloc (.cells (loP a) 79)).cell? ⟨w.heap.size + 1, 2, none⟩ = some (.int .i64 0) := HR.out.cell 2
  have c3 : (wl.alloc (.cells (loP a) 79)).cell? ⟨w.heap.size + 1, 3, none⟩ = some (.slice none 0 0) := HR.out.cell 3
  have f0 : (wl.alloc (.cells (loP a) 79)).frozen? ⟨w.heap.size + 1, 0, none⟩ = false := HR.out.free 0
  have f1 : (wl.alloc (.cells (loP a) 79)).frozen? ⟨w.heap.size + 1, 1, none⟩ = false := HR.out.free 1
  have f2 : (wl.alloc (.cells (loP a) 79)).frozen? ⟨w.heap.size + 1, 2, none⟩ = false := HR.out.free 2
  have f3 : (wl.alloc (.cells (loP a) 79)).frozen? ⟨w.heap.size + 1, 3, none⟩ = false := HR.out.free 3
  have hh := (Blk.put_other (p := ⟨w.heap.size + 1, 3, none⟩) (Blk.put_other (p := ⟨w.heap.size + 1, 2, none⟩) (Blk.put_other (p := ⟨w.heap.size + 1, 1, none⟩) (Blk.put_other (p := ⟨w.heap.size + 1, 0, none⟩) hHeld (.int .i64 1331) g0) (.int .i64 t) g0) (.int .i64 0) g0) (.slice (some ⟨wl.heap.size, 0, none⟩) 5 5) g0)
  have HRz := Lib.hid (((((HR.out).put 0 (.int .i64 1331)).put 1 (.int .i64 t)).put 2 (.int .i64 0)).put 3 (.slice (some ⟨wl.heap.size, 0, none⟩) 5 5))
  have HPz := Lib.hid ((Blk.put_other (p := ⟨w.heap.size + 1, 3, none⟩) (Blk.put_other (p := ⟨w.heap.size + 1, 2, none⟩) (Blk.put_other (p := ⟨w.heap.size + 1, 1, none⟩) (Blk.put_other (p := ⟨w.heap.size + 1, 0, none⟩) (Blk.new wl (loP a) 79) (.int .i64 1331) g1) (.int .i64 t) g1) (.int .i64 0) g1) (.slice (some ⟨wl.heap.size, 0, none⟩) 5 5) g1))
  have HBz := Lib.hid (HB.out.grown ((only_setCell (p := ⟨w.heap.size + 1, 3, none⟩) (only_setCell (p := ⟨w.heap.size + 1, 2, none⟩) (only_setCell (p := ⟨w.heap.size + 1, 1, none⟩) (only_setCell (p := ⟨w.heap.size + 1, 0, none⟩) (show (wl.alloc (.cells (loP a) 79)).grownBy (wl.alloc (.cells (loP a) 79)) (some (w.heap.size + 1)) from ⟨rfl, rfl, rfl, Nat.le_refl _, fun i hi _ => rfl⟩) (.inl rfl) (.int .i64 1331)) (.inl rfl) (.int .i64 t)) (.inl rfl) (.int .i64 0)) (.inl rfl) (.slice (some ⟨wl.heap.size, 0, none⟩) 5 5))) HB.out.size (fun k e => by injection e with e; omega))
  go_simp
  refine hK.out _ _ hh (fun hHeld => ?_)
  clear hK K
  clear hh c0 c1 c2 c3 f0 f1 f2 f3
  refine wpAnyH_done (by kernel_rfl) ?_ _
  go_wp2_with fail
  refine bodyPost_ret (rc_retN (n := 4) (fn := Tryz.f36) rfl _ _ (w.heap.size + 1) (loR a t) (.slice (some ⟨wl.heap.size, 0, none⟩) 5 5) rfl HRz.out) rfl ?_
  exact ⟨some ⟨wl.heap.size, 0, none⟩, 5, rfl, row_blkEl EP HPz.out (loL a) rfl HPz.out.lt, HBz.out⟩
end Go.Proofs.YtollifnnpihfdaaGreatDoor
/- Fields of a context, and tests of them: plain functions. -/
namespace Go.Proofs.YtollifnnpihfdaaGreatDoor
def fieldL : List ByteArray := [⟨#[]⟩, ⟨#[112, 105, 100]⟩, ⟨#[112, 112, 105, 100]⟩, ⟨#[117, 105, 100]⟩, ⟨#[101, 117, 105, 100]⟩, ⟨#[103, 105, 100]⟩, ⟨#[101, 103, 105, 100]⟩, ⟨#[97, 117, 105, 100]⟩, ⟨#[115, 101, 115]⟩, ⟨#[97, 48]⟩, ⟨#[97, 49]⟩, ⟨#[97, 50]⟩, ⟨#[97, 51]⟩, ⟨#[101, 120, 101]⟩, ⟨#[99, 111, 109, 109]⟩, ⟨#[101, 120, 105, 116]⟩, ⟨#[115, 117, 99, 99, 101, 115, 115]⟩, ⟨#[105, 110, 111, 100, 101]⟩, ⟨#[100, 101, 118]⟩, ⟨#[111, 98, 106, 95, 117, 105, 100]⟩, ⟨#[111, 98, 106, 95, 103, 105, 100]⟩, ⟨#[107, 105, 110, 100]⟩, ⟨#[116, 121, 112, 101]⟩]
def fieldN (k : Nat) : ByteArray := fieldL.getD k ⟨#[]⟩
def opL : List ByteArray := [⟨#[]⟩, ⟨#[61]⟩, ⟨#[33, 61]⟩, ⟨#[60]⟩, ⟨#[60, 61]⟩, ⟨#[62]⟩, ⟨#[62, 61]⟩, ⟨#[38]⟩, ⟨#[38, 61]⟩]
def opN (k : Nat) : ByteArray := opL.getD k ⟨#[]⟩
/-- The name of a field, or the empty text. -/
def nameF (f : Int) : ByteArray := if f < 1 ∨ 22 < f then ⟨#[]⟩ else fieldN f.toNat
/-- The number of a name, or 0. -/
def numF (s : ByteArray) : Int := match (List.range 22).find? (fun n => (fieldN (n + 1)).toList == s.toList) with | some n => (n : Int) + 1 | none => 0
theorem numF_at {s : ByteArray} {k : Nat} (hk : k < 22) (h : ∀ j, j < k → fieldN (j + 1) ≠ s) (he : fieldN (k + 1) = s) : numF s = (k : Int) + 1 := by
  have : (List.range 22).find? (fun n => (fieldN (n + 1)).toList == s.toList) = some k := by
    rw [List.find?_range_eq_some]
    refine ⟨str_eq he, by simpa using hk, fun j hj => ?_⟩
    simp [str_ne (h j hj)]
  unfold numF; rw [this]
theorem numF_none {s : ByteArray} (h : ∀ j, j < 22 → fieldN (j + 1) ≠ s) : numF s = 0 := by
  have : (List.range 22).find? (fun n => (fieldN (n + 1)).toList == s.toList) = none := by
    rw [List.find?_range_eq_none]
    intro j hj
    simp [str_ne (h j hj)]
  unfold numF; rw [this]
def procB (f : Int) : Bool := decide ((1 ≤ f ∧ f ≤ 8) ∨ f = 13 ∨ f = 14)
/-- May a rule of the list l ask the field f? -/
def allowB (l f : Int) : Bool :=
  if l = 1 ∨ l = 4 then procB f
  else if l = 2 then decide (1 ≤ f ∧ f ≤ 14)
  else if l = 3 then decide (1 ≤ f ∧ f ≤ 21)
  else if l = 5 then procB f || decide (f = 22)
  else false
def textB (f : Int) : Bool := decide (f = 13 ∨ f = 14)
def ownerB (f : Int) : Bool := decide ((3 ≤ f ∧ f ≤ 7) ∨ f = 19 ∨ f = 20)
def itemB (f : Int) : Bool := decide (17 ≤ f ∧ f ≤ 21)
/-- The first error of a test in a rule of the list l. -/
def checkF (fd op nu : Int) (tx : ByteArray) (ot l : Int) : Int :=
  if allowB l fd = false then 120
  else if ot ≠ 0 ∧ (allowB l ot = false ∨ ownerB fd = false ∨ ownerB ot = false) then 120
  else if op < 1 ∨ 8 < op then 121
  else if 2 < op ∧ (textB fd = true ∨ ot ≠ 0) then 121
  else if ot ≠ 0 ∧ (nu ≠ 0 ∨ tx.size ≠ 0) then 122
  else if textB fd = true ∧ (nu ≠ 0 ∨ tx.size = 0 ∨ 640 < tx.size) then 122
  else if textB fd = false ∧ tx.size ≠ 0 then 122
  else 0
theorem allow_range {l f : Int} (h : allowB l f = true) : 1 ≤ f ∧ f ≤ 22 := by
  unfold allowB procB at h
  split at h
  · simp at h; omega
  · split at h
    · simp at h; omega
    · split at h
      · simp at h; omega
      · split at h
        · simp at h; omega
        · cases h
theorem owner_text {f : Int} (h : ownerB f = true) : textB f = false := by
  unfold ownerB at h; unfold textB; simp at *; omega
theorem checkF_zero {fd op nu : Int} {tx : ByteArray} {ot l : Int} (h : checkF fd op nu tx ot l = 0) : allowB l fd = true ∧ (ot = 0 ∨ (allowB l ot = true ∧ ownerB fd = true ∧ ownerB ot = true)) ∧ (1 ≤ op ∧ op ≤ 8) ∧ (op ≤ 2 ∨ (textB fd = false ∧ ot = 0)) ∧ (ot = 0 ∨ (nu = 0 ∧ tx.size = 0)) ∧ (textB fd = false ∨ (nu = 0 ∧ tx.size ≠ 0 ∧ tx.size ≤ 640)) ∧ (textB fd = true ∨ tx.size = 0) := by
  unfold checkF at h
  split at h
  · cases h
  · split at h
    · cases h
    · split at h
      · cases h
      · split at h
        · cases h
        · split at h
          · cases h
          · split at h
            · cases h
            · split at h
              · cases h
              · rename_i h1 h2 h3 h4 h5 h6 h7
                cases hx : allowB l fd <;> cases hy : textB fd <;> cases hz : allowB l ot <;> cases hu : ownerB fd <;> cases hv : ownerB ot <;> by_cases hot : ot = 0 <;> by_cases hnu : nu = 0 <;> simp_all <;> omega
end Go.Proofs.YtollifnnpihfdaaGreatDoor
/- Decimal of the reference writes the decimal digits of a number that is not negative. -/
namespace Go.Proofs.YtollifnnpihfdaaGreatDoor
open Go.RowKit
theorem nd_le : ∀ (k u : Nat), u < 10 ^ (k + 1) → Lib.nDigits u ≤ k + 1
  | 0, u, h => by rw [Lib.nDigits_small (by simpa using h)]; omega
  | k + 1, u, h => by
    by_cases hu : u < 10
    · rw [Lib.nDigits_small hu]; omega
    · rw [Lib.nDigits_big hu]
      have := nd_le k (u / 10) (by rw [Nat.pow_succ] at h; omega)
      omega
theorem dec_len (u : Nat) (h : u < 10000000000000000000) : (Lib.decDigits u).length ≤ 19 := by
  rw [Lib.decDigits_length]; exact nd_le 18 u h
/-- The decimal digits of n as a string. -/
def decS (n : Nat) : ByteArray := ⟨(Lib.decDigits n).toArray⟩
theorem decS_size (n : Nat) (h : n < 10000000000000000000) : (decS n).size ≤ 19 := by
  have : (decS n).size = (Lib.decDigits n).length := by show (Lib.decDigits n).toArray.size = _; simp
  rw [this]; exact dec_len n h
theorem enc_digit : ∀ d : Fin 10, Utf8.encode (48 + (d.val : Int)) = ⟨#[UInt8.ofNat (48 + d.val)]⟩ := by decide +kernel
theorem enc_dig (x : Int) (h0 : 0 ≤ x) (h1 : x < 10) : Utf8.encode (48 + x) = ⟨#[UInt8.ofNat (48 + x.toNat)]⟩ := by
  have := enc_digit ⟨x.toNat, by omega⟩
  simp only [Int.toNat_of_nonneg h0] at this
  exact this
def DecLeft (n m : Nat) (T : ByteArray) : Prop := Lib.decDigits n = Lib.decDigits m ++ T.data.toList
theorem DecLeft.step {n m : Nat} {T : ByteArray} (h : DecLeft n m T) (hm : 10 ≤ m) : DecLeft n (m / 10) (⟨#[UInt8.ofNat (48 + m % 10)]⟩ ++ T) := by
  unfold DecLeft at *
  rw [h, Lib.decDigits, dif_neg (by omega)]
  simp
theorem DecLeft.done {n m : Nat} {T : ByteArray} (h : DecLeft n m T) (hm : m < 10) : ⟨#[UInt8.ofNat (48 + m)]⟩ ++ T = decS n := by
  unfold DecLeft at h
  unfold decS
  rw [h, Lib.decDigits_one hm]
  apply ByteArray.ext; simp
theorem DecLeft.size {n m : Nat} {T : ByteArray} (h : DecLeft n m T) (hn : n < 10000000000000000000) : T.size ≤ 19 := by
  have h1 := dec_len n hn
  unfold DecLeft at h
  rw [h, List.length_append] at h1
  have h2 : T.data.toList.length = T.size := Array.length_toList
  omega
attribute [local irreducible] Utf8.encode
set_option maxHeartbeats 400000 in
theorem decimal (n : Nat) (w : World) (hn : (n : Int) ≤ 9223372036854775807) :
    Calls Tryz.prog 114 #[.int .i64 (n : Int)] w fun e w' => e = .returned (.string (decS n)) ∧ w = w' := by
  go_enter Tryz.func114, Tryz.ntmps114
  go_wp2
  go_loop [0, 3] (fun x v => ∃ (m : Nat) (T : ByteArray), (m : Int) ≤ 9223372036854775807 ∧ x = .int .i64 (m : Int) ∧ v = .string T ∧ T.size ≤ 19 ∧ Hid (DecLeft n m T)) (fun x _ => (intOf x).toNat)
  case atStart => exact ⟨n, ⟨#[]⟩, hn, rfl, rfl, by decide, show DecLeft _ _ _ from by simp [DecLeft]⟩
  case round =>
    obtain ⟨m, T, hm, rfl, rfl, hT, hleft⟩ := hrel
    by_cases hlt : 10 ≤ m
    · have H := Lib.hid (hleft.out.step hlt)
      have HZ := Lib.hid (H.out.size (by omega))
      have q0 : (0 : Int) ≤ (m : Int) % 10 := by omega
      have q1 : (m : Int) % 10 < 10 := by omega
      have HE := Lib.hid (enc_dig _ q0 q1)
      have hEz : (Utf8.encode (48 + (m : Int) % 10)).size ≤ 1 := by rw [HE.out]; exact Nat.le_refl 1
      go_wp2
      go_round
      case rel => exact ⟨m / 10, _, by omega, by go_num, rfl, by rw [HE.out, show ((m : Int) % 10).toNat = m % 10 by omega]; exact HZ.out, by rw [HE.out, show ((m : Int) % 10).toNat = m % 10 by omega]; exact H⟩
      case measure => simp [intOf]; omega
    · have H := Lib.hid (hleft.out.done (by omega))
      have q0 : (0 : Int) ≤ (m : Int) := by omega
      have q1 : (m : Int) < 10 := by omega
      have HE := Lib.hid (enc_dig _ q0 q1)
      have hEz : (Utf8.encode (48 + (m : Int))).size ≤ 1 := by rw [HE.out]; exact Nat.le_refl 1
      go_wp2
      go_ret
      exact ⟨retS (by rw [HE.out, Int.toNat_natCast]; exact H.out), rfl⟩
end Go.Proofs.YtollifnnpihfdaaGreatDoor

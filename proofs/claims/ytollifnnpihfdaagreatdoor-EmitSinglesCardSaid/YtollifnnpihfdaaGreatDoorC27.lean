/- Texts of one proof, laid together. -/
import Derived.Test.YtollifnnpihfdaaGreatDoorC05
import Derived.Test.YtollifnnpihfdaaGreatDoorC15
import Derived.Test.YtollifnnpihfdaaGreatDoorProg
import Derived.Test.YtollifnnpihfdaaGreatDoorC01
import Derived.Lib.Hide
import Derived.WalkSpells
import Derived.LoopTactic
import Derived.Outline
import Derived.WalkLawsBesides
import Derived.Deep.QuietTactic
import Derived.BigQuiet
/- User of package emit and of the reference: the record of a message of a process. -/
namespace Go.Proofs.YtollifnnpihfdaaGreatDoor
open Go.RowKit
abbrev pcC (c : Ctx) (r : CRest) : Array Value := #[.int .i64 (c.p 0), .int .i64 (c.p 1), .int .i64 (c.p 2), .int .i64 (c.p 3), .int .i64 (c.p 4), .int .i64 (c.p 5), .int .i64 (c.p 6), .int .i64 (c.p 7), .int .i64 r.d, .int .i64 r.i, .string c.comm, .string c.exe, r.o.v, .bool r.u]
abbrev zpC : Array Value := #[.int .i64 0, .int .i64 0, .int .i64 0, .int .i64 0, .int .i64 0, .int .i64 0, .int .i64 0, .int .i64 0, .int .i64 0, .int .i64 0, .string ⟨#[]⟩, .string ⟨#[]⟩, .slice none 0 0, .bool false]
theorem cx_proc (c : Ctx) (r : CRest) (it : Value) (j : Nat) (u : Value) (h : (pcC c r).toList[j]? = some u) : (ctxC c r it)[1 + j]? = some u := by
  have hl : (ctxC c r it).toList = [.int .i64 c.ph] ++ ((pcC c r).toList ++ [.int .i64 r.n, .int .i64 (c.a 0), .int .i64 (c.a 1), .int .i64 (c.a 2), .int .i64 (c.a 3), r.ps.v, r.gs.v, .int .i64 c.ex, it, .int .i64 c.ty]) := rfl
  rw [← Array.getElem?_toList, hl, List.getElem?_append_right (by simp)]
  have hj := (List.getElem?_eq_some_iff.1 h).1
  rw [List.getElem?_append_left (by simpa using hj)]
  simpa using h
theorem pc_sz (c : Ctx) (r : CRest) : (Tryz.prog.info? 47).map (·.size) = some (pcC c r).size := by show _ = some 14; kernel_rfl
theorem pc_old (c : Ctx) (r : CRest) : zpC.size = (pcC c r).size := rfl
theorem pc_one (c : Ctx) (r : CRest) : (pcC c r).all (·.oneCell') = true := by simp [Value.oneCell']
theorem ld_proc {w : World} {g : Nat} {c : Ctx} {r : CRest} {it : Value} (h : Blk w g 54 (ctxC c r it)) : (loadVar 47 ⟨g, 1, none⟩).run Tryz.prog w = .ok (.agg (pcC c r)) w :=
  ld_any (fun j u hu => by rw [addM, h.cell]; exact cx_proc c r it j u hu) Tryz.underlying47 rfl (pc_sz c r)
abbrev usL (c : Ctx) (p : Pr) : List Pr := [⟨⟨#[112, 105, 100]⟩, 1, c.p 0, ⟨#[]⟩⟩, ⟨⟨#[117, 105, 100]⟩, 1, c.p 2, ⟨#[]⟩⟩, ⟨⟨#[97, 117, 105, 100]⟩, 1, c.p 6, ⟨#[]⟩⟩, ⟨⟨#[115, 101, 115]⟩, 1, c.p 7, ⟨#[]⟩⟩, p]
abbrev usP (c : Ctx) (p : Pr) : Array Value := #[.string ⟨#[112, 105, 100]⟩, .int .i64 1, .int .i64 (c.p 0), .string ⟨#[]⟩, .string ⟨#[117, 105, 100]⟩, .int .i64 1, .int .i64 (c.p 2), .string ⟨#[]⟩, .string ⟨#[97, 117, 105, 100]⟩, .int .i64 1, .int .i64 (c.p 6), .string ⟨#[]⟩, .string ⟨#[115, 101, 115]⟩, .int .i64 1, .int .i64 (c.p 7), .string ⟨#[]⟩, .string p.nm, .int .i64 p.kd, .int .i64 p.nu, .string p.tx]
abbrev usQ (c : Ctx) (p : Pr) (t : Int) : Rc := ⟨1005, t, 0, usL c p⟩
def usR (c : Ctx) (s : ByteArray) (t : Int) : Rc := usQ c (txP ⟨#[109, 115, 103]⟩ s) t
attribute [local irreducible] ctxC
attribute [-go_sem] loadVar
attribute [local go_sem] lv3
set_option maxRecDepth 100000 in
set_option maxHeartbeats 8000000 in
theorem vuserQ (c : Ctx) (r : CRest) (it : Value) (s : ByteArray) (t : Int) (p : Pr) (hp : ∀ w : World, Calls Tryz.prog 47 #[.string ⟨#[109, 115, 103]⟩, .string s] w fun e w' => e = .returned (prV p) ∧ Below w.heap.size w w') (w : World) : Calls Tryz.prog 32 #[.agg (ctxC c r it), .string s, .int .i64 t] w (RetR (usQ c p t) w) := by
  have hl := ld_proc (show Blk ((w.alloc (.cells (ctxC c r it) 54)).alloc (.cells zrC 77)) w.heap.size 54 (ctxC c r it) from (Blk.new w (ctxC c r it) 54).alloc _)
  have X0 : Blk (((w.alloc (.cells (ctxC c r it) 54)).alloc (.cells zrC 77)).alloc (.cells zpC 47)) (w.heap.size + 2) 47 zpC := by
    have := Blk.new ((w.alloc (.cells (ctxC c r it) 54)).alloc (.cells zrC 77)) zpC 47
    simpa using this
  have X2 := Lib.hid (Blk.row X0 (pcC c r))
  have hR0 : Blk ((w.alloc (.cells (ctxC c r it) 54)).alloc (.cells zrC 77)) (w.heap.size + 1) 77 zrC := by
    have := Blk.new (w.alloc (.cells (ctxC c r it) 54)) zrC 77
    simpa using this
  have hR1 : Blk ((((w.alloc (.cells (ctxC c r it) 54)).alloc (.cells zrC 77)).alloc (.cells zpC 47)).setRow (w.heap.size + 2) (pcC c r)) (w.heap.size + 1) 77 zrC := (hR0.alloc _).row_other _ (by omega)
  have hB0 : Below w.heap.size w ((((w.alloc (.cells (ctxC c r it) 54)).alloc (.cells zrC 77)).alloc (.cells zpC 47)).setRow (w.heap.size + 2) (pcC c r)) := below_row ((((Below.refl _ _).alloc (Nat.le_refl _) _).alloc (by simp) _).alloc (by simp; omega) _) (by omega) _
  have HR := Lib.hid (Blk.below hR1 (Below.refl _ _).drew)
  have HB := Lib.hid hB0.drew
  have X0 := Lib.hid X0
  clear hR0 hB0 hR1
  go_enter Tryz.func32, Tryz.ntmps32
  go_upto_region 2 with ((with_reducible refine store_blk ?_ 47 (.tmp 7) (.tmp 9) ?_ X0.out (pcC c r) ?_ ?_ ?_ ?_ ?_ ?_); (iterate 4 rfl); (exact pc_sz _ _); (exact pc_old _ _); (exact pc_one _ _))
  clear hl X0
  refine wp_region_held_drew (S := (fun w' => Blk w' (w.heap.size + 2) 47 (pcC c r))) (by kernel_rfl) (Blk.below X2.out (Below.refl _ _).drew) (fun hHeld => ?_)
  clear X2
  refine wpAnyH_take (i := 0) (v := ?_) rfl (by kernel_rfl) (by kernel_rfl) (by kernel_rfl) (fun _ _ _ h => h) (Or.inl ⟨by kernel_rfl, ?_⟩) hHeld ?_
  rotate_left
  · intro w hSw
    go_simp
    first | (with_reducible rfl) | (rw [if_neg (by first | omega | (simp; omega))])
  refine wpAnyH_take (i := 1) (v := ?_) rfl (by kernel_rfl) (by kernel_rfl) (by kernel_rfl) (fun _ _ _ h => h) (Or.inl ⟨by kernel_rfl, ?_⟩) hHeld ?_
  rotate_left
  · intro w hSw
    go_simp
    first | (with_reducible rfl) | (rw [if_neg (by first | omega | (simp; omega))])
  refine wpAnyH_take (i := 2) (v := ?_) rfl (by kernel_rfl) (by kernel_rfl) (by kernel_rfl) (fun _ _ _ h => h) (Or.inl ⟨by kernel_rfl, ?_⟩) hHeld ?_
  rotate_left
  · intro w hSw
    have kk := hSw.cell 0
    go_simp
    first | (with_reducible rfl) | (rw [if_neg (by first | omega | (simp; omega))])
  refine wpAnyH_take (i := 4) (v := ?_) rfl (by kernel_rfl) (by kernel_rfl) (by kernel_rfl) (fun _ _ _ h => h) (Or.inl ⟨by kernel_rfl, ?_⟩) hHeld ?_
  rotate_left
  · intro w hSw
    go_simp
    first | (with_reducible rfl) | (rw [if_neg (by first | omega | (simp; omega))])
  refine wpAnyH_take (i := 5) (v := ?_) rfl (by kernel_rfl) (by kernel_rfl) (by kernel_rfl) (fun _ _ _ h => h) (Or.inl ⟨by kernel_rfl, ?_⟩) hHeld ?_
  rotate_left
  · intro w hSw
    have kk := hSw.cell 2
    go_simp
    first | (with_reducible rfl) | (rw [if_neg (by first | omega | (simp; omega))])
  refine wpAnyH_take (i := 7) (v := ?_) rfl (by kernel_rfl) (by kernel_rfl) (by kernel_rfl) (fun _ _ _ h => h) (Or.inl ⟨by kernel_rfl, ?_⟩) hHeld ?_
  rotate_left
  · intro w hSw
    go_simp
    first | (with_reducible rfl) | (rw [if_neg (by first | omega | (simp; omega))])
  refine wpAnyH_take (i := 8) (v := ?_) rfl (by kernel_rfl) (by kernel_rfl) (by kernel_rfl) (fun _ _ _ h => h) (Or.inl ⟨by kernel_rfl, ?_⟩) hHeld ?_
  rotate_left
  · intro w hSw
    have kk := hSw.cell 6
    go_simp
    first | (with_reducible rfl) | (rw [if_neg (by first | omega | (simp; omega))])
  refine wpAnyH_take (i := 10) (v := ?_) rfl (by kernel_rfl) (by kernel_rfl) (by kernel_rfl) (fun _ _ _ h => h) (Or.inl ⟨by kernel_rfl, ?_⟩) hHeld ?_
  rotate_left
  · intro w hSw
    go_simp
    first | (with_reducible rfl) | (rw [if_neg (by first | omega | (simp; omega))])
  refine wpAnyH_take (i := 11) (v := ?_) rfl (by kernel_rfl) (by kernel_rfl) (by kernel_rfl) (fun _ _ _ h => h) (Or.inl ⟨by kernel_rfl, ?_⟩) hHeld ?_
  rotate_left
  · intro w hSw
    have kk := hSw.cell 7
    go_simp
    first | (with_reducible rfl) | (rw [if_neg (by first | omega | (simp; omega))])
  refine wpAnyH_take (i := 13) (v := ?_) rfl (by kernel_rfl) (by kernel_rfl) (by kernel_rfl) (fun _ _ _ h => h) (Or.inl ⟨by kernel_rfl, ?_⟩) hHeld ?_
  rotate_left
  · intro w hSw
    go_simp
    first | (with_reducible rfl) | (rw [if_neg (by first | omega | (simp; omega))])
  refine wpAnyH_ready (rs := [3]) (by kernel_rfl) (by simp) ?_
  refine AllReadyH.cons rfl (fun K hK => ?_) AllReadyH.nil
  go_simp
  go_at_call 48
  refine (vnumE _ _ _).mono ?_
  rintro e wl ⟨rfl, hb⟩
  have HR := Lib.hid (Blk.below HR.out hb)
  have HB := Lib.hid (below_then HB.out hb)
  have hh := Blk.below hHeld hb
  clear hb
  go_simp
  refine hK.out _ _ hh (fun hHeld => ?_)
  clear hK K
  clear hh
  refine wpAnyH_ready (rs := [6]) (by kernel_rfl) (by simp) ?_
  refine AllReadyH.cons rfl (fun K hK => ?_) AllReadyH.nil
  go_simp
  go_at_call 48
  refine (vnumE _ _ _).mono ?_
  rintro e wl ⟨rfl, hb⟩
  have HR := Lib.hid (Blk.below HR.out hb)
  have HB := Lib.hid (below_then HB.out hb)
  have hh := Blk.below hHeld hb
  clear hb
  go_simp
  refine hK.out _ _ hh (fun hHeld => ?_)
  clear hK K
  clear hh
  refine wpAnyH_ready (rs := [9]) (by kernel_rfl) (by simp) ?_
  refine AllReadyH.cons rfl (fun K hK => ?_) AllReadyH.nil
  go_simp
  go_at_call 48
  refine (vnumE _ _ _).mono ?_
  rintro e wl ⟨rfl, hb⟩
  have HR := Lib.hid (Blk.below HR.out hb)
  have HB := Lib.hid (below_then HB.out hb)
  have hh := Blk.below hHeld hb
  clear hb
  go_simp
  refine hK.out _ _ hh (fun hHeld => ?_)
  clear hK K
  clear hh
  refine wpAnyH_ready (rs := [12]) (by kernel_rfl) (by simp) ?_
  refine AllReadyH.cons rfl (fun K hK => ?_) AllReadyH.nil
  go_simp
  go_at_call 48
  refine (vnumE _ _ _).mono ?_
  rintro e wl ⟨rfl, hb⟩
  have HR := Lib.hid (Blk.below HR.out hb)
  have HB := Lib.hid (below_then HB.out hb)
  have hh := Blk.below hHeld hb
  clear hb
  go_simp
  refine hK.out _ _ hh (fun hHeld => ?_)
  clear hK K
  clear hh
  refine wpAnyH_ready (rs := [14]) (by kernel_rfl) (by simp) ?_
  refine AllReadyH.cons rfl (fun K hK => ?_) AllReadyH.nil
  go_simp
  go_at_call 47
  refine (hp _).mono ?_
  rintro e wl ⟨rfl, hb⟩
  have HR := Lib.hid (Blk.below HR.out hb)
  have HB := Lib.hid (below_then HB.out hb)
  have hh := Blk.below hHeld hb
  clear hb
  go_simp
  refine hK.out _ _ hh (fun hHeld => ?_)
  clear hK K
  clear hh
  have HRl := HR
  refine wpAnyH_ready (rs := [15]) (by kernel_rfl) (by simp) ?_
  refine AllReadyH.cons rfl (fun K hK => ?_) AllReadyH.nil
  have HR := Lib.hid (HR.out.alloc (.cells (usP c p) 79))
  have HB := Lib.hid (HB.out.alloc HB.out.size (.cells (usP c p) 79))
  have hh := Blk.alloc hHeld (.cells (usP c p) 79)
  go_simp
  refine hK.out _ _ hh (fun hHeld => ?_)
  clear hK K
  clear hh
  refine wpAnyH_take (i := 16) (v := ?_) rfl (by kernel_rfl) (by kernel_rfl) (by kernel_rfl) (fun _ _ _ h => h) (Or.inl ⟨by kernel_rfl, ?_⟩) hHeld ?_
  rotate_left
  · intro w hSw
    go_simp
    first | (with_reducible rfl) | (rw [if_neg (by first | omega | (simp; omega))])
  have g0 : (w.heap.size + 2) ≠ w.heap.size + 1 := by omega
  have g1 : wl.heap.size ≠ w.heap.size + 1 := by have h1 := HR.out.lt; have h2 := Below.size HB.out; have h3 := hHeld.lt; have h4 := HRl.out.lt; omega
  refine wpAnyH_ready (rs := [17]) (by kernel_rfl) (by simp) ?_
  refine AllReadyH.cons rfl (fun K hK => ?_) AllReadyH.nil
  have c0 : (wl.alloc (.cells (usP c p) 79)).cell? ⟨w.heap.size + 1, 0, none⟩ = some (.int .i64 0) := HR.out.cell 0
  have c1 : (wl.alloc (.cells (usP c p) 79)).cell? ⟨w.heap.size + 1, 1, none⟩ = some (.int .i64 0) := HR.out.cell 1
  have c2 : (wl.alloc (.cells (usP c p) 79)).cell? ⟨w.heap.size + 1, 2, none⟩ = some (.int .i64 0) := HR.out.cell 2
  have c3 : (wl.alloc (.cells (usP c p) 79)).cell? ⟨w.heap.size + 1, 3, none⟩ = some (.slice none 0 0) := HR.out.cell 3
  have f0 : (wl.alloc (.cells (usP c p) 79)).frozen? ⟨w.heap.size + 1, 0, none⟩ = false := HR.out.free 0
  have f1 : (wl.alloc (.cells (usP c p) 79)).frozen? ⟨w.heap.size + 1, 1, none⟩ = false := HR.out.free 1
  have f2 : (wl.alloc (.cells (usP c p) 79)).frozen? ⟨w.heap.size + 1, 2, none⟩ = false := HR.out.free 2
  have f3 : (wl.alloc (.cells (usP c p) 79)).frozen? ⟨w.heap.size + 1, 3, none⟩ = false := HR.out.free 3
  have hh := (Blk.put_other (p := ⟨w.heap.size + 1, 3, none⟩) (Blk.put_other (p := ⟨w.heap.size + 1, 2, none⟩) (Blk.put_other (p := ⟨w.heap.size + 1, 1, none⟩) (Blk.put_other (p := ⟨w.heap.size + 1, 0, none⟩) hHeld (.int .i64 1005) g0) (.int .i64 t) g0) (.int .i64 0) g0) (.slice (some ⟨wl.heap.size, 0, none⟩) 5 5) g0)
  have HRz := Lib.hid (((((HR.out).put 0 (.int .i64 1005)).put 1 (.int .i64 t)).put 2 (.int .i64 0)).put 3 (.slice (some ⟨wl.heap.size, 0, none⟩) 5 5))
  have HPz := Lib.hid ((Blk.put_other (p := ⟨w.heap.size + 1, 3, none⟩) (Blk.put_other (p := ⟨w.heap.size + 1, 2, none⟩) (Blk.put_other (p := ⟨w.heap.size + 1, 1, none⟩) (Blk.put_other (p := ⟨w.heap.size + 1, 0, none⟩) (Blk.new wl (usP c p) 79) (.int .i64 1005) g1) (.int .i64 t) g1) (.int .i64 0) g1) (.slice (some ⟨wl.heap.size, 0, none⟩) 5 5) g1))
  have HBz := Lib.hid (HB.out.grown ((only_setCell (p := ⟨w.heap.size + 1, 3, none⟩) (only_setCell (p := ⟨w.heap.size + 1, 2, none⟩) (only_setCell (p := ⟨w.heap.size + 1, 1, none⟩) (only_setCell (p := ⟨w.heap.size + 1, 0, none⟩) (show (wl.alloc (.cells (usP c p) 79)).grownBy (wl.alloc (.cells (usP c p) 79)) (some (w.heap.size + 1)) from ⟨rfl, rfl, rfl, Nat.le_refl _, fun i hi _ => rfl⟩) (.inl rfl) (.int .i64 1005)) (.inl rfl) (.int .i64 t)) (.inl rfl) (.int .i64 0)) (.inl rfl) (.slice (some ⟨wl.heap.size, 0, none⟩) 5 5))) HB.out.size (fun k e => by injection e with e; omega))
  go_simp
  refine hK.out _ _ hh (fun hHeld => ?_)
  clear hK K
  clear hh c0 c1 c2 c3 f0 f1 f2 f3
  refine wpAnyH_done (by kernel_rfl) ?_ _
  go_wp2_with fail
  refine bodyPost_ret (rc_retN (n := 6) (fn := Tryz.f32) rfl _ _ (w.heap.size + 1) (usQ c p t) (.slice (some ⟨wl.heap.size, 0, none⟩) 5 5) rfl HRz.out) rfl ?_
  exact ⟨some ⟨wl.heap.size, 0, none⟩, 5, rfl, row_blkEl EP HPz.out (usL c p) rfl HPz.out.lt, HBz.out⟩
set_option maxRecDepth 100000 in
set_option maxHeartbeats 8000000 in
theorem ruserQ (c : Ctx) (r : CRest) (it : Value) (s : ByteArray) (t : Int) (p : Pr) (hp : ∀ w : World, Calls Tryz.prog 54 #[.string ⟨#[109, 115, 103]⟩, .string s] w fun e w' => e = .returned (prV p) ∧ Below w.heap.size w w') (w : World) : Calls Tryz.prog 33 #[.agg (ctxC c r it), .string s, .int .i64 t] w (RetR (usQ c p t) w) := by
  have hl := ld_proc (show Blk ((w.alloc (.cells (ctxC c r it) 54)).alloc (.cells zrC 77)) w.heap.size 54 (ctxC c r it) from (Blk.new w (ctxC c r it) 54).alloc _)
  have X0 : Blk (((w.alloc (.cells (ctxC c r it) 54)).alloc (.cells zrC 77)).alloc (.cells zpC 47)) (w.heap.size + 2) 47 zpC := by
    have := Blk.new ((w.alloc (.cells (ctxC c r it) 54)).alloc (.cells zrC 77)) zpC 47
    simpa using this
  have X2 := Lib.hid (Blk.row X0 (pcC c r))
  have hR0 : Blk ((w.alloc (.cells (ctxC c r it) 54)).alloc (.cells zrC 77)) (w.heap.size + 1) 77 zrC := by
    have := Blk.new (w.alloc (.cells (ctxC c r it) 54)) zrC 77
    simpa using this
  have hR1 : Blk ((((w.alloc (.cells (ctxC c r it) 54)).alloc (.cells zrC 77)).alloc (.cells zpC 47)).setRow (w.heap.size + 2) (pcC c r)) (w.heap.size + 1) 77 zrC := (hR0.alloc _).row_other _ (by omega)
  have hB0 : Below w.heap.size w ((((w.alloc (.cells (ctxC c r it) 54)).alloc (.cells zrC 77)).alloc (.cells zpC 47)).setRow (w.heap.size + 2) (pcC c r)) := below_row ((((Below.refl _ _).alloc (Nat.le_refl _) _).alloc (by simp) _).alloc (by simp; omega) _) (by omega) _
  have HR := Lib.hid (Blk.below hR1 (Below.refl _ _).drew)
  have HB := Lib.hid hB0.drew
  have X0 := Lib.hid X0
  clear hR0 hB0 hR1
  go_enter Tryz.func33, Tryz.ntmps33
  go_upto_region 2 with ((with_reducible refine store_blk ?_ 47 (.tmp 7) (.tmp 9) ?_ X0.out (pcC c r) ?_ ?_ ?_ ?_ ?_ ?_); (iterate 4 rfl); (exact pc_sz _ _); (exact pc_old _ _); (exact pc_one _ _))
  clear hl X0
  refine wp_region_held_drew (S := (fun w' => Blk w' (w.heap.size + 2) 47 (pcC c r))) (by kernel_rfl) (Blk.below X2.out (Below.refl _ _).drew) (fun hHeld => ?_)
  clear X2
  refine wpAnyH_take (i := 0) (v := ?_) rfl (by kernel_rfl) (by kernel_rfl) (by kernel_rfl) (fun _ _ _ h => h) (Or.inl ⟨by kernel_rfl, ?_⟩) hHeld ?_
  rotate_left
  · intro w hSw
    go_simp
    first | (with_reducible rfl) | (rw [if_neg (by first | omega | (simp; omega))])
  refine wpAnyH_take (i := 1) (v := ?_) rfl (by kernel_rfl) (by kernel_rfl) (by kernel_rfl) (fun _ _ _ h => h) (Or.inl ⟨by kernel_rfl, ?_⟩) hHeld ?_
  rotate_left
  · intro w hSw
    go_simp
    first | (with_reducible rfl) | (rw [if_neg (by first | omega | (simp; omega))])
  refine wpAnyH_take (i := 2) (v := ?_) rfl (by kernel_rfl) (by kernel_rfl) (by kernel_rfl) (fun _ _ _ h => h) (Or.inl ⟨by kernel_rfl, ?_⟩) hHeld ?_
  rotate_left
  · intro w hSw
    have kk := hSw.cell 0
    go_simp
    first | (with_reducible rfl) | (rw [if_neg (by first | omega | (simp; omega))])
  refine wpAnyH_take (i := 4) (v := ?_) rfl (by kernel_rfl) (by kernel_rfl) (by kernel_rfl) (fun _ _ _ h => h) (Or.inl ⟨by kernel_rfl, ?_⟩) hHeld ?_
  rotate_left
  · intro w hSw
    go_simp
    first | (with_reducible rfl) | (rw [if_neg (by first | omega | (simp; omega))])
  refine wpAnyH_take (i := 5) (v := ?_) rfl (by kernel_rfl) (by kernel_rfl) (by kernel_rfl) (fun _ _ _ h => h) (Or.inl ⟨by kernel_rfl, ?_⟩) hHeld ?_
  rotate_left
  · intro w hSw
    have kk := hSw.cell 2
    go_simp
    first | (with_reducible rfl) | (rw [if_neg (by first | omega | (simp; omega))])
  refine wpAnyH_take (i := 7) (v := ?_) rfl (by kernel_rfl) (by kernel_rfl) (by kernel_rfl) (fun _ _ _ h => h) (Or.inl ⟨by kernel_rfl, ?_⟩) hHeld ?_
  rotate_left
  · intro w hSw
    go_simp
    first | (with_reducible rfl) | (rw [if_neg (by first | omega | (simp; omega))])
  refine wpAnyH_take (i := 8) (v := ?_) rfl (by kernel_rfl) (by kernel_rfl) (by kernel_rfl) (fun _ _ _ h => h) (Or.inl ⟨by kernel_rfl, ?_⟩) hHeld ?_
  rotate_left
  · intro w hSw
    have kk := hSw.cell 6
    go_simp
    first | (with_reducible rfl) | (rw [if_neg (by first | omega | (simp; omega))])
  refine wpAnyH_take (i := 10) (v := ?_) rfl (by kernel_rfl) (by kernel_rfl) (by kernel_rfl) (fun _ _ _ h => h) (Or.inl ⟨by kernel_rfl, ?_⟩) hHeld ?_
  rotate_left
  · intro w hSw
    go_simp
    first | (with_reducible rfl) | (rw [if_neg (by first | omega | (simp; omega))])
  refine wpAnyH_take (i := 11) (v := ?_) rfl (by kernel_rfl) (by kernel_rfl) (by kernel_rfl) (fun _ _ _ h => h) (Or.inl ⟨by kernel_rfl, ?_⟩) hHeld ?_
  rotate_left
  · intro w hSw
    have kk := hSw.cell 7
    go_simp
    first | (with_reducible rfl) | (rw [if_neg (by first | omega | (simp; omega))])
  refine wpAnyH_take (i := 13) (v := ?_) rfl (by kernel_rfl) (by kernel_rfl) (by kernel_rfl) (fun _ _ _ h => h) (Or.inl ⟨by kernel_rfl, ?_⟩) hHeld ?_
  rotate_left
  · intro w hSw
    go_simp
    first | (with_reducible rfl) | (rw [if_neg (by first | omega | (simp; omega))])
  refine wpAnyH_ready (rs := [3]) (by kernel_rfl) (by simp) ?_
  refine AllReadyH.cons rfl (fun K hK => ?_) AllReadyH.nil
  go_simp
  go_at_call 55
  refine (rnumE _ _ _).mono ?_
  rintro e wl ⟨rfl, hb⟩
  have HR := Lib.hid (Blk.below HR.out hb)
  have HB := Lib.hid (below_then HB.out hb)
  have hh := Blk.below hHeld hb
  clear hb
  go_simp
  refine hK.out _ _ hh (fun hHeld => ?_)
  clear hK K
  clear hh
  refine wpAnyH_ready (rs := [6]) (by kernel_rfl) (by simp) ?_
  refine AllReadyH.cons rfl (fun K hK => ?_) AllReadyH.nil
  go_simp
  go_at_call 55
  refine (rnumE _ _ _).mono ?_
  rintro e wl ⟨rfl, hb⟩
  have HR := Lib.hid (Blk.below HR.out hb)
  have HB := Lib.hid (below_then HB.out hb)
  have hh := Blk.below hHeld hb
  clear hb
  go_simp
  refine hK.out _ _ hh (fun hHeld => ?_)
  clear hK K
  clear hh
  refine wpAnyH_ready (rs := [9]) (by kernel_rfl) (by simp) ?_
  refine AllReadyH.cons rfl (fun K hK => ?_) AllReadyH.nil
  go_simp
  go_at_call 55
  refine (rnumE _ _ _).mono ?_
  rintro e wl ⟨rfl, hb⟩
  have HR := Lib.hid (Blk.below HR.out hb)
  have HB := Lib.hid (below_then HB.out hb)
  have hh := Blk.below hHeld hb
  clear hb
  go_simp
  refine hK.out _ _ hh (fun hHeld => ?_)
  clear hK K
  clear hh
  refine wpAnyH_ready (rs := [12]) (by kernel_rfl) (by simp) ?_
  refine AllReadyH.cons rfl (fun K hK => ?_) AllReadyH.nil
  go_simp
  go_at_call 55
  refine (rnumE _ _ _).mono ?_
  rintro e wl ⟨rfl, hb⟩
  have HR := Lib.hid (Blk.below HR.out hb)
  have HB := Lib.hid (below_then HB.out hb)
  have hh := Blk.below hHeld hb
  clear hb
  go_simp
  refine hK.out _ _ hh (fun hHeld => ?_)
  clear hK K
  clear hh
  refine wpAnyH_ready (rs := [14]) (by kernel_rfl) (by simp) ?_
  refine AllReadyH.cons rfl (fun K hK => ?_) AllReadyH.nil
  go_simp
  go_at_call 54
  refine (hp _).mono ?_
  rintro e wl ⟨rfl, hb⟩
  have HR := Lib.hid (Blk.below HR.out hb)
  have HB := Lib.hid (below_then HB.out hb)
  have hh := Blk.below hHeld hb
  clear hb
  go_simp
  refine hK.out _ _ hh (fun hHeld => ?_)
  clear hK K
  clear hh
  have HRl := HR
  refine wpAnyH_ready (rs := [15]) (by kernel_rfl) (by simp) ?_
  refine AllReadyH.cons rfl (fun K hK => ?_) AllReadyH.nil
  have HR := Lib.hid (HR.out.alloc (.cells (usP c p) 79))
  have HB := Lib.hid (HB.out.alloc HB.out.size (.cells (usP c p) 79))
  have hh := Blk.alloc hHeld (.cells (usP c p) 79)
  go_simp
  refine hK.out _ _ hh (fun hHeld => ?_)
  clear hK K
  clear hh
  refine wpAnyH_take (i := 16) (v := ?_) rfl (by kernel_rfl) (by kernel_rfl) (by kernel_rfl) (fun _ _ _ h => h) (Or.inl ⟨by kernel_rfl, ?_⟩) hHeld ?_
  rotate_left
  · intro w hSw
    go_simp
    first | (with_reducible rfl) | (rw [if_neg (by first | omega | (simp; omega))])
  have g0 : (w.heap.size + 2) ≠ w.heap.size + 1 := by omega
  have g1 : wl.heap.size ≠ w.heap.size + 1 := by have h1 := HR.out.lt; have h2 := Below.size HB.out; have h3 := hHeld.lt; have h4 := HRl.out.lt; omega
  refine wpAnyH_ready (rs := [17]) (by kernel_rfl) (by simp) ?_
  refine AllReadyH.cons rfl (fun K hK => ?_) AllReadyH.nil
  have c0 : (wl.alloc (.cells (usP c p) 79)).cell? ⟨w.heap.size + 1, 0, none⟩ = some (.int .i64 0) := HR.out.cell 0
  have c1 : (wl.alloc (.cells (usP c p) 79)).cell? ⟨w.heap.size + 1, 1, none⟩ = some (.int .i64 0) := HR.out.cell 1
  have c2 : (wl.alloc (.cells (usP c p) 79)).cell? ⟨w.heap.size + 1, 2, none⟩ = some (.int .i64 0) := HR.out.cell 2
  have c3 : (wl.alloc (.cells (usP c p) 79)).cell? ⟨w.heap.size + 1, 3, none⟩ = some (.slice none 0 0) := HR.out.cell 3
  have f0 : (wl.alloc (.cells (usP c p) 79)).frozen? ⟨w.heap.size + 1, 0, none⟩ = false := HR.out.free 0
  have f1 : (wl.alloc (.cells (usP c p) 79)).frozen? ⟨w.heap.size + 1, 1, none⟩ = false := HR.out.free 1
  have f2 : (wl.alloc (.cells (usP c p) 79)).frozen? ⟨w.heap.size + 1, 2, none⟩ = false := HR.out.free 2
  have f3 : (wl.alloc (.cells (usP c p) 79)).frozen? ⟨w.heap.size + 1, 3, none⟩ = false := HR.out.free 3
  have hh := (Blk.put_other (p := ⟨w.heap.size + 1, 3, none⟩) (Blk.put_other (p := ⟨w.heap.size + 1, 2, none⟩) (Blk.put_other (p := ⟨w.heap.size + 1, 1, none⟩) (Blk.put_other (p := ⟨w.heap.size + 1, 0, none⟩) hHeld (.int .i64 1005) g0) (.int .i64 t) g0) (.int .i64 0) g0) (.slice (some ⟨wl.heap.size, 0, none⟩) 5 5) g0)
  have HRz := Lib.hid (((((HR.out).put 0 (.int .i64 1005)).put 1 (.int .i64 t)).put 2 (.int .i64 0)).put 3 (.slice (some ⟨wl.heap.size, 0, none⟩) 5 5))
  have HPz := Lib.hid ((Blk.put_other (p := ⟨w.heap.size + 1, 3, none⟩) (Blk.put_other (p := ⟨w.heap.size + 1, 2, none⟩) (Blk.put_other (p := ⟨w.heap.size + 1, 1, none⟩) (Blk.put_other (p := ⟨w.heap.size + 1, 0, none⟩) (Blk.new wl (usP c p) 79) (.int .i64 1005) g1) (.int .i64 t) g1) (.int .i64 0) g1) (.slice (some ⟨wl.heap.size, 0, none⟩) 5 5) g1))
  have HBz := Lib.hid (HB.out.grown ((only_setCell (p := ⟨w.heap.size + 1, 3, none⟩) (only_setCell (p := ⟨w.heap.size + 1, 2, none⟩) (only_setCell (p := ⟨w.heap.size + 1, 1, none⟩) (only_setCell (p := ⟨w.heap.size + 1, 0, none⟩) (show (wl.alloc (.cells (usP c p) 79)).grownBy (wl.alloc (.cells (usP c p) 79)) (some (w.heap.size + 1)) from ⟨rfl, rfl, rfl, Nat.le_refl _, fun i hi _ => rfl⟩) (.inl rfl) (.int .i64 1005)) (.inl rfl) (.int .i64 t)) (.inl rfl) (.int .i64 0)) (.inl rfl) (.slice (some ⟨wl.heap.size, 0, none⟩) 5 5))) HB.out.size (fun k e => by injection e with e; omega))
  go_simp
  refine hK.out _ _ hh (fun hHeld => ?_)
  clear hK K
  clear hh c0 c1 c2 c3 f0 f1 f2 f3
  refine wpAnyH_done (by kernel_rfl) ?_ _
  go_wp2_with fail
  refine bodyPost_ret (rc_retN (n := 6) (fn := Tryz.f33) rfl _ _ (w.heap.size + 1) (usQ c p t) (.slice (some ⟨wl.heap.size, 0, none⟩) 5 5) rfl HRz.out) rfl ?_
  exact ⟨some ⟨wl.heap.size, 0, none⟩, 5, rfl, row_blkEl EP HPz.out (usL c p) rfl HPz.out.lt, HBz.out⟩
theorem vuser (c : Ctx) (r : CRest) (it : Value) (s : ByteArray) (t : Int) (w : World) : Calls Tryz.prog 32 #[.agg (ctxC c r it), .string s, .int .i64 t] w (RetR (usR c s t) w) := vuserQ c r it s t _ (fun w => vtextA _ s w) w
theorem ruser (c : Ctx) (r : CRest) (it : Value) (s : ByteArray) (t : Int) (w : World) : Calls Tryz.prog 33 #[.agg (ctxC c r it), .string s, .int .i64 t] w (RetR (usR c s t) w) := ruserQ c r it s t _ (fun w => rtxtA _ s w) w
end Go.Proofs.YtollifnnpihfdaaGreatDoor
/- The table of calls in plain words (written by gen_call.py). -/
namespace Go.Proofs.YtollifnnpihfdaaGreatDoor
open Go.RowKit
structure CRow where
  name : ByteArray
  nums : Nat
  pths : Nat
  least : Nat
  most : Nat
def rowsC : List CRow := [
  ⟨⟨#[102, 111, 114, 107]⟩, 0, 0, 0, 0⟩,
  ⟨⟨#[101, 120, 101, 99, 118, 101]⟩, 0, 1, 0, 4⟩,
  ⟨⟨#[101, 120, 105, 116]⟩, 1, 0, 0, 0⟩,
  ⟨⟨#[115, 101, 116, 117, 105, 100]⟩, 1, 0, 0, 0⟩,
  ⟨⟨#[115, 101, 116, 103, 105, 100]⟩, 1, 0, 0, 0⟩,
  ⟨⟨#[108, 111, 103, 105, 110]⟩, 1, 0, 0, 0⟩,
  ⟨⟨#[111, 112, 101, 110]⟩, 2, 1, 0, 0⟩,
  ⟨⟨#[99, 108, 111, 115, 101]⟩, 1, 0, 0, 0⟩,
  ⟨⟨#[108, 105, 110, 107]⟩, 0, 2, 0, 0⟩,
  ⟨⟨#[115, 121, 109, 108, 105, 110, 107]⟩, 0, 1, 1, 1⟩,
  ⟨⟨#[117, 110, 108, 105, 110, 107]⟩, 0, 1, 0, 0⟩,
  ⟨⟨#[109, 107, 100, 105, 114]⟩, 1, 1, 0, 0⟩,
  ⟨⟨#[114, 109, 100, 105, 114]⟩, 0, 1, 0, 0⟩,
  ⟨⟨#[114, 101, 110, 97, 109, 101]⟩, 0, 2, 0, 0⟩,
  ⟨⟨#[99, 104, 109, 111, 100]⟩, 1, 1, 0, 0⟩,
  ⟨⟨#[99, 104, 111, 119, 110]⟩, 2, 1, 0, 0⟩,
  ⟨⟨#[99, 104, 100, 105, 114]⟩, 0, 1, 0, 0⟩,
  ⟨⟨#[109, 111, 117, 110, 116]⟩, 1, 1, 0, 0⟩,
  ⟨⟨#[117, 109, 111, 117, 110, 116]⟩, 1, 0, 0, 0⟩,
  ⟨⟨#[99, 111, 110, 110, 101, 99, 116]⟩, 1, 0, 1, 1⟩,
  ⟨⟨#[107, 105, 108, 108]⟩, 2, 0, 0, 0⟩,
  ⟨⟨#[116, 114, 117, 110, 99, 97, 116, 101]⟩, 1, 1, 0, 0⟩]
/-- The cells of a row, with integers of the kind k. -/
def CRow.cells (k : IntKind) (r : CRow) : List Value := [.string r.name, .int k r.nums, .int k r.pths, .int k r.least, .int k r.most]
def CRow.val (k : IntKind) (r : CRow) : Value := .agg #[.string r.name, .int k r.nums, .int k r.pths, .int k r.least, .int k r.most]
def rowC (n : Nat) : CRow := rowsC.getD n ⟨⟨#[]⟩, 0, 0, 0, 0⟩
def rowI (z : Int) : CRow := if z < 0 then ⟨⟨#[]⟩, 0, 0, 0, 0⟩ else rowC z.toNat
def cellsC (k : IntKind) : Array Value := ((rowsC.map (CRow.cells k)).flatten).toArray
theorem cellsC_at (k : IntKind) (n : Nat) (h : n < 22) : (cellsC k)[n * 5]? = some (.string (rowC n).name) ∧ (cellsC k)[n * 5 + 1]? = some (.int k (rowC n).nums) ∧ (cellsC k)[n * 5 + 2]? = some (.int k (rowC n).pths) ∧ (cellsC k)[n * 5 + 3]? = some (.int k (rowC n).least) ∧ (cellsC k)[n * 5 + 4]? = some (.int k (rowC n).most) := by
  have H : ∀ m : Fin 22, (cellsC k)[m.val * 5]? = some (.string (rowC m).name) ∧ (cellsC k)[m.val * 5 + 1]? = some (.int k (rowC m).nums) ∧ (cellsC k)[m.val * 5 + 2]? = some (.int k (rowC m).pths) ∧ (cellsC k)[m.val * 5 + 3]? = some (.int k (rowC m).least) ∧ (cellsC k)[m.val * 5 + 4]? = some (.int k (rowC m).most) := by
    intro m
    match m with
    | ⟨0, _⟩ => exact ⟨rfl, rfl, rfl, rfl, rfl⟩
    | ⟨1, _⟩ => exact ⟨rfl, rfl, rfl, rfl, rfl⟩
    | ⟨2, _⟩ => exact ⟨rfl, rfl, rfl, rfl, rfl⟩
    | ⟨3, _⟩ => exact ⟨rfl, rfl, rfl, rfl, rfl⟩
    | ⟨4, _⟩ => exact ⟨rfl, rfl, rfl, rfl, rfl⟩
    | ⟨5, _⟩ => exact ⟨rfl, rfl, rfl, rfl, rfl⟩
    | ⟨6, _⟩ => exact ⟨rfl, rfl, rfl, rfl, rfl⟩
    | ⟨7, _⟩ => exact ⟨rfl, rfl, rfl, rfl, rfl⟩
    | ⟨8, _⟩ => exact ⟨rfl, rfl, rfl, rfl, rfl⟩
    | ⟨9, _⟩ => exact ⟨rfl, rfl, rfl, rfl, rfl⟩
    | ⟨10, _⟩ => exact ⟨rfl, rfl, rfl, rfl, rfl⟩
    | ⟨11, _⟩ => exact ⟨rfl, rfl, rfl, rfl, rfl⟩
    | ⟨12, _⟩ => exact ⟨rfl, rfl, rfl, rfl, rfl⟩
    | ⟨13, _⟩ => exact ⟨rfl, rfl, rfl, rfl, rfl⟩
    | ⟨14, _⟩ => exact ⟨rfl, rfl, rfl, rfl, rfl⟩
    | ⟨15, _⟩ => exact ⟨rfl, rfl, rfl, rfl, rfl⟩
    | ⟨16, _⟩ => exact ⟨rfl, rfl, rfl, rfl, rfl⟩
    | ⟨17, _⟩ => exact ⟨rfl, rfl, rfl, rfl, rfl⟩
    | ⟨18, _⟩ => exact ⟨rfl, rfl, rfl, rfl, rfl⟩
    | ⟨19, _⟩ => exact ⟨rfl, rfl, rfl, rfl, rfl⟩
    | ⟨20, _⟩ => exact ⟨rfl, rfl, rfl, rfl, rfl⟩
    | ⟨21, _⟩ => exact ⟨rfl, rfl, rfl, rfl, rfl⟩
    | ⟨m + 22, h⟩ => omega
  exact H ⟨n, h⟩
theorem rowC_small (n : Nat) : (rowC n).nums ≤ 2 ∧ (rowC n).pths ≤ 2 ∧ (rowC n).least ≤ 1 ∧ (rowC n).most ≤ 4 ∧ (rowC n).name.size ≤ 8 := by
  by_cases h : n < 22
  · have H : ∀ m : Fin 22, (rowC m).nums ≤ 2 ∧ (rowC m).pths ≤ 2 ∧ (rowC m).least ≤ 1 ∧ (rowC m).most ≤ 4 ∧ (rowC m).name.size ≤ 8 := by decide +kernel
    exact H ⟨n, h⟩
  · have : rowC n = ⟨⟨#[]⟩, 0, 0, 0, 0⟩ := by
      unfold rowC
      rw [List.getD_eq_getElem?_getD, List.getElem?_eq_none (by show 22 ≤ n; omega)]; rfl
    rw [this]; decide
theorem rowC_named (n : Nat) (h : n < 22) : 0 < (rowC n).name.size := by
  have H : ∀ m : Fin 22, 0 < (rowC m).name.size := by decide +kernel
  exact H ⟨n, h⟩
theorem rowC_out (n : Nat) (h : 22 ≤ n) : rowC n = ⟨⟨#[]⟩, 0, 0, 0, 0⟩ := by
  unfold rowC
  rw [List.getD_eq_getElem?_getD, List.getElem?_eq_none (by show 22 ≤ n; omega)]; rfl
/-- The program's table lies in its variable. -/
def Calls10 (w : World) : Prop := Glob w 2 (cellsC .u8)
end Go.Proofs.YtollifnnpihfdaaGreatDoor
/- The functions of the table of calls. -/
namespace Go.Proofs.YtollifnnpihfdaaGreatDoor
open Go.RowKit
theorem Calls10.below {B : Nat} {w w' : World} (h : Calls10 w) (hb : Below B w w') (hB : w.heap.size ≤ B) : Calls10 w' := Glob.below h hb hB
def existsB (z : Int) : Bool := decide (0 ≤ z) && decide (z < 22)
attribute [local irreducible] rowC cellsC
theorem vexists (z : Int) (w : World) : Calls Tryz.prog 155 #[.int .i64 z] w fun e w' => e = .returned (.bool (existsB z)) ∧ w = w' := by
  by_cases h0 : 0 ≤ z
  · by_cases h1 : z < 22
    · have H := Lib.hid (show existsB z = true by unfold existsB; simp [h0, h1])
      go_enter Tryz.func155, Tryz.ntmps155
      go_wp2
      go_ret
      exact ⟨by rw [H.out]; rfl, rfl⟩
    · have H := Lib.hid (show existsB z = false by unfold existsB; simp; omega)
      go_enter Tryz.func155, Tryz.ntmps155
      go_wp2
      go_ret
      exact ⟨by rw [H.out]; rfl, rfl⟩
  · have H := Lib.hid (show existsB z = false by unfold existsB; simp; omega)
    go_enter Tryz.func155, Tryz.ntmps155
    go_wp2
    go_ret
    exact ⟨by rw [H.out]; rfl, rfl⟩
theorem vname (n : Nat) (hn : n < 22) (w : World) (hc : Calls10 w) : Calls Tryz.prog 92 #[.int .i64 (n : Int)] w fun e w' => e = .returned (.string (rowC n).name) ∧ w = w' := by
  have hx : existsB (n : Int) = true := by unfold existsB; simp; omega
  have HX := Lib.hid hx
  have c0 := (hc.cell (n * 5)).trans (cellsC_at .u8 n hn).1
  clear hc hx
  go_enter Tryz.func92, Tryz.ntmps92
  go_wp2_with fail
  refine (vexists _ _).mono ?_
  rintro e w' ⟨rfl, rfl⟩
  rw [HX.out]
  go_wp2_with fail
  go_ret
  exact ⟨rfl, rfl⟩
theorem vname_out (z : Int) (hz : z < 0 ∨ 22 ≤ z) (w : World) : Calls Tryz.prog 92 #[.int .i64 z] w fun e w' => e = .returned (.string ⟨#[]⟩) ∧ w = w' := by
  have HX := Lib.hid (show existsB z = false by unfold existsB; simp; omega)
  clear hz
  go_enter Tryz.func92, Tryz.ntmps92
  go_wp2_with fail
  refine (vexists _ _).mono ?_
  rintro e w' ⟨rfl, rfl⟩
  rw [HX.out]
  go_wp2_with fail
  go_ret
  exact ⟨rfl, rfl⟩
end Go.Proofs.YtollifnnpihfdaaGreatDoor
/- The reference's table of calls. -/
namespace Go.Proofs.YtollifnnpihfdaaGreatDoor
open Go.RowKit
theorem row_lit {w wr : World} {cs : Array Value} {t : TypeId} (hb : Below (w.heap.size + 1) (w.alloc (.cells cs t)) wr) (k : Nat) : wr.cell? ⟨w.heap.size, k, none⟩ = cs[k]? := by
  rw [hb.cell (p := ⟨w.heap.size, k, none⟩) (by show w.heap.size < w.heap.size + 1; omega)]
  exact cell_of_row _ _ _ cs t (0, 0) (heap_alloc_new w _)
/-- A list of rows of the table, in one block of the call's own. -/
def TabAt (w : World) (g : Nat) : Prop := Glob w g (cellsC .i64)
set_option maxRecDepth 100000 in
theorem cellsC_lit : cellsC .i64 = #[.string ⟨#[102, 111, 114, 107]⟩, .int .i64 0, .int .i64 0, .int .i64 0, .int .i64 0, .string ⟨#[101, 120, 101, 99, 118, 101]⟩, .int .i64 0, .int .i64 1, .int .i64 0, .int .i64 4, .string ⟨#[101, 120, 105, 116]⟩, .int .i64 1, .int .i64 0, .int .i64 0, .int .i64 0, .string ⟨#[115, 101, 116, 117, 105, 100]⟩, .int .i64 1, .int .i64 0, .int .i64 0, .int .i64 0, .string ⟨#[115, 101, 116, 103, 105, 100]⟩, .int .i64 1, .int .i64 0, .int .i64 0, .int .i64 0, .string ⟨#[108, 111, 103, 105, 110]⟩, .int .i64 1, .int .i64 0, .int .i64 0, .int .i64 0, .string ⟨#[111, 112, 101, 110]⟩, .int .i64 2, .int .i64 1, .int .i64 0, .int .i64 0, .string ⟨#[99, 108, 111, 115, 101]⟩, .int .i64 1, .int .i64 0, .int .i64 0, .int .i64 0, .string ⟨#[108, 105, 110, 107]⟩, .int .i64 0, .int .i64 2, .int .i64 0, .int .i64 0, .string ⟨#[115, 121, 109, 108, 105, 110, 107]⟩, .int .i64 0, .int .i64 1, .int .i64 1, .int .i64 1, .string ⟨#[117, 110, 108, 105, 110, 107]⟩, .int .i64 0, .int .i64 1, .int .i64 0, .int .i64 0, .string ⟨#[109, 107, 100, 105, 114]⟩, .int .i64 1, .int .i64 1, .int .i64 0, .int .i64 0, .string ⟨#[114, 109, 100, 105, 114]⟩, .int .i64 0, .int .i64 1, .int .i64 0, .int .i64 0, .string ⟨#[114, 101, 110, 97, 109, 101]⟩, .int .i64 0, .int .i64 2, .int .i64 0, .int .i64 0, .string ⟨#[99, 104, 109, 111, 100]⟩, .int .i64 1, .int .i64 1, .int .i64 0, .int .i64 0, .string ⟨#[99, 104, 111, 119, 110]⟩, .int .i64 2, .int .i64 1, .int .i64 0, .int .i64 0, .string ⟨#[99, 104, 100, 105, 114]⟩, .int .i64 0, .int .i64 1, .int .i64 0, .int .i64 0, .string ⟨#[109, 111, 117, 110, 116]⟩, .int .i64 1, .int .i64 1, .int .i64 0, .int .i64 0, .string ⟨#[117, 109, 111, 117, 110, 116]⟩, .int .i64 1, .int .i64 0, .int .i64 0, .int .i64 0, .string ⟨#[99, 111, 110, 110, 101, 99, 116]⟩, .int .i64 1, .int .i64 0, .int .i64 1, .int .i64 1, .string ⟨#[107, 105, 108, 108]⟩, .int .i64 2, .int .i64 0, .int .i64 0, .int .i64 0, .string ⟨#[116, 114, 117, 110, 99, 97, 116, 101]⟩, .int .i64 1, .int .i64 1, .int .i64 0, .int .i64 0] := rfl
attribute [local irreducible] cellsC rowC
set_option maxRecDepth 100000 in
set_option maxHeartbeats 4000000 in
theorem rtable (w : World) : Calls Tryz.prog 110 #[] w fun e w' => e = .returned (.slice (some ⟨w.heap.size, 0, none⟩) 22 22) ∧ Glob w' w.heap.size (cellsC .i64) ∧ Below w.heap.size w w' := by
  go_enter Tryz.func110, Tryz.ntmps110
  go_wp2
  go_ret
  exact ⟨rfl, ⟨147, (0, 0), (heap_alloc_new w _).trans (congrArg (fun c => some (Obj.cells c 147 (0, 0))) cellsC_lit.symm)⟩, (Below.refl _ _).alloc (Nat.le_refl _) _⟩
end Go.Proofs.YtollifnnpihfdaaGreatDoor
/- Shape of the program; Count, get, Name, Shape of the reference. -/
namespace Go.Proofs.YtollifnnpihfdaaGreatDoor
open Go.RowKit
theorem results_four {fn : Func} {a b c d : Tmp} (h : fn.results = #[.tmp a, .tmp b, .tmp c, .tmp d]) (tmps : Array Value) (P : Program) (w : World) :
    (results fn tmps).run P w = .ok (.tuple #[tmps.getD a undef, tmps.getD b undef, tmps.getD c undef, tmps.getD d undef]) w := by
  simp [results, h]
attribute [local irreducible] rowC cellsC
theorem rcount (w : World) : Calls Tryz.prog 109 #[] w fun e w' => e = .returned (.int .i64 22) ∧ Below w.heap.size w w' := by
  go_enter Tryz.func109, Tryz.ntmps109
  go_wp2_with fail
  refine (rtable _).mono ?_
  rintro e w1 ⟨rfl, _, hb⟩
  go_wp2_with fail
  go_ret
  exact ⟨rfl, hb⟩
end Go.Proofs.YtollifnnpihfdaaGreatDoor

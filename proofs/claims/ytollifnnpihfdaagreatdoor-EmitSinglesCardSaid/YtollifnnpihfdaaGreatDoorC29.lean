/- Texts of one proof, laid together. -/
import Derived.Test.YtollifnnpihfdaaGreatDoorC04
import Derived.Test.YtollifnnpihfdaaGreatDoorC28
/- syscall of a maker. -/
namespace Go.Proofs.YtollifnnpihfdaaGreatDoor
open Go.RowKit
theorem row_newEs {α : Type} (E : El α) (w : World) (cs : Array Value) (t : TypeId) (L : List α) (h : cs.toList = L.flatMap E.C) {B : Nat} (hB : w.heap.size < B) : AtE E (w.alloc (.cells cs t)) B (some ⟨w.heap.size, 0, none⟩) L := fun k hk => by
  refine ⟨_, rfl, hB, fun j hj => ?_⟩
  rw [addE_at, (Blk.new w cs t).cell, ← Array.getElem?_toList, h, E.flat_at L k hk j hj]
abbrev poC : Array Value := #[.int .i64 0, .int .i64 0, .int .i64 0, .int .i64 0, .int .i64 0, .int .i64 0, .int .i64 0, .int .i64 0, .int .i64 0, .int .i64 0, .string ⟨#[]⟩, .string ⟨#[]⟩, .slice none 0 0, .bool false]
abbrev z4 : Array Value := #[.int .i64 0, .int .i64 0, .int .i64 0, .int .i64 0]
theorem cx_pr (t : Int) (j : Nat) (u : Value) (h : poC.toList[j]? = some u) : (cxC t)[1 + j]? = some u := by
  have hl : (cxC t).toList = [.int .i64 2] ++ (poC.toList ++ [.int .i64 3, .int .i64 0, .int .i64 0, .int .i64 0, .int .i64 0, .slice none 0 0, .slice none 0 0, .int .i64 0, .slice none 0 0, .int .i64 t]) := rfl
  rw [← Array.getElem?_toList, hl, List.getElem?_append_right (by simp)]
  have hj := (List.getElem?_eq_some_iff.1 h).1
  rw [List.getElem?_append_left (by simpa using hj)]
  simpa using h
theorem cx_a4 (t : Int) (j : Nat) (u : Value) (h : z4.toList[j]? = some u) : (cxC t)[16 + j]? = some u := by
  match j with
  | 0 => simp at h; subst h; rfl
  | 1 => simp at h; subst h; rfl
  | 2 => simp at h; subst h; rfl
  | 3 => simp at h; subst h; rfl
  | j + 4 => simp at h
theorem ld_pr {w : World} {g : Nat} (h : Blk w g 54 (cxC 0)) : (loadVar 47 ⟨g, 1, none⟩).run Tryz.prog w = .ok (.agg poC) w :=
  ld_any (fun j u hu => by rw [addM, h.cell]; exact cx_pr 0 j u hu) Tryz.underlying47 rfl (by show _ = some 14; kernel_rfl)
theorem ld_a4 {w : World} {g : Nat} (h : Blk w g 54 (cxC 0)) : (loadVar 48 ⟨g, 16, none⟩).run Tryz.prog w = .ok (.agg z4) w :=
  ld_any (fun j u hu => by rw [addM, h.cell]; exact cx_a4 0 j u hu) Tryz.underlying48 rfl (by show _ = some 4; kernel_rfl)
theorem cx_15 (t : Int) : (cxC t)[15]? = some (.int .i64 3) := rfl
theorem cx_22 (t : Int) : (cxC t)[22]? = some (.int .i64 0) := rfl
theorem cx_23 (t : Int) : (cxC t)[23]? = some (.slice none 0 0) := rfl
theorem lvIt (a : Addr) (w : World) : (loadVar 52 a).run Tryz.prog w = (load a).run Tryz.prog w := by
  unfold loadVar
  simp [go_sem]
theorem lv9 (a : Addr) (w : World) : (loadVar 9 a).run Tryz.prog w = (load a).run Tryz.prog w := by
  unfold loadVar
  simp [go_sem]
abbrev zcC : Array Value := #[.int .i64 0, .int .i64 0, .int .i64 0, .int .i64 0, .int .i64 0, .int .i64 0, .int .i64 0, .int .i64 0, .int .i64 0, .int .i64 0, .int .i64 0, .string ⟨#[]⟩, .string ⟨#[]⟩, .slice none 0 0, .bool false, .int .i64 0, .int .i64 0, .int .i64 0, .int .i64 0, .int .i64 0, .slice none 0 0, .slice none 0 0, .int .i64 0, .slice none 0 0, .int .i64 0]
theorem zc_sz : zcC.size = (cxC 0).size := rfl
theorem cx_one : (cxC 0).all (·.oneCell') = true := by decide +kernel
structure SyB (W : World) (g4 g6 g7 : Nat) : Prop where
  x4 : Blk W g4 54 (cxC 0)
  x6 : Blk W g6 48 z4
  x7 : Blk W g7 47 poC
theorem SyB.below {W W' : World} {g4 g6 g7 : Nat} (h : SyB W g4 g6 g7) (hb : Below W.heap.size W W') : SyB W' g4 g6 g7 := ⟨Blk.below h.x4 hb, Blk.below h.x6 hb, Blk.below h.x7 hb⟩
theorem name_le : (rowI 3).name.size ≤ 640 := by decide +kernel
attribute [local irreducible] cxC mkC rowI
attribute [-go_sem] loadVar
attribute [local go_sem] lv3 lvRs lvRu lvIt lv9
set_option maxRecDepth 100000 in
set_option maxHeartbeats 16000000 in
theorem vsys (g : Nat) (w : World) (hg : Blk w g 124 (mkC (.slice none 0 0))) (hc : Calls10 w) :
    Calls Tryz.prog 44 #[.pointer (some ⟨g, 0, none⟩), .string ⟨#[107]⟩] w (AddPost g 19 w) := by
  have HG := Lib.hid hg
  have HC := Lib.hid (fun (W : World) (h : Below w.heap.size w W) => hc.below h (Nat.le_refl _))
  have hl := ld_mkcx hg
  have hlt := hg.lt
  have X0 := Lib.hid (Blk.new w zcC 54)
  have X4 := Lib.hid (Blk.row X0.out (cxC 0))
  have HBa := Lib.hid (show Below w.heap.size w ((w.alloc (.cells zcC 54)).setRow w.heap.size (cxC 0)) from below_row ((Below.refl _ _).alloc (Nat.le_refl _) _) (Nat.le_refl _) _)
  have c22 := (X4.out.cell 22).trans (cx_22 0)
  clear hg hc
  go_enter Tryz.func44, Tryz.ntmps44
  go_upto_region 4 with ((with_reducible refine store_blk ?_ 54 (.tmp 4) (.tmp 11) ?_ X0.out (cxC 0) ?_ ?_ ?_ ?_ ?_ ?_); (iterate 4 rfl); (exact cx_sz _); (exact zc_sz); (exact cx_one))
  clear hl c22 X0
  generalize hWb : (w.alloc (.cells zcC 54)).setRow w.heap.size (cxC 0) = Wb at *
  clear hWb
  have hltb : g < Wb.heap.size := Nat.lt_of_lt_of_le hlt HBa.out.size
  go_cut [6, 7] (fun a b wx => ∃ g6 g7, g < g6 ∧ g < g7 ∧ a = .pointer (some ⟨g6, 0, none⟩) ∧ b = .pointer (some ⟨g7, 0, none⟩) ∧ Blk wx g6 48 z4 ∧ Blk wx g7 47 poC ∧ Below Wb.heap.size Wb wx)
  case first =>
    refine wp_region_held_drew (S := (fun w' => Blk w' w.heap.size 54 (cxC 0))) (by kernel_rfl) (Blk.below X4.out (Below.refl _ _).drew) (fun hHeld => ?_)
    refine wpAnyH_take (i := 0) (v := ?_) rfl (by kernel_rfl) (by kernel_rfl) (by kernel_rfl) (fun _ _ _ h => h) (Or.inl ⟨by kernel_rfl, ?_⟩) hHeld ?_
    rotate_left
    · intro w hSw
      go_simp
      first | (with_reducible rfl) | (rw [if_neg (by first | omega | (simp; omega))])
    refine wpAnyH_take (i := 1) (v := ?_) rfl (by kernel_rfl) (by kernel_rfl) (by kernel_rfl) (fun _ _ _ h => h) (Or.inl ⟨by kernel_rfl, ?_⟩) hHeld ?_
    rotate_left
    · intro w hSw
      go_simp
      first | (with_reducible rfl) | (rw [if_neg (by first | omega | (simp; omega))])
    refine wpAnyH_take (i := 2) (v := ?_) rfl (by kernel_rfl) (by kernel_rfl) (by kernel_rfl) (fun _ _ _ h => h) (Or.inl ⟨by kernel_rfl, ?_⟩) hHeld ?_
    rotate_left
    · intro w hSw
      have hl := ld_a4 hSw
      go_simp
      first | (with_reducible rfl) | (rw [if_neg (by first | omega | (simp; omega))])
    refine wpAnyH_take (i := 3) (v := ?_) rfl (by kernel_rfl) (by kernel_rfl) (by kernel_rfl) (fun _ _ _ h => h) (Or.inl ⟨by kernel_rfl, ?_⟩) hHeld ?_
    rotate_left
    · intro w hSw
      go_simp
      first | (with_reducible rfl) | (rw [if_neg (by first | omega | (simp; omega))])
    refine wpAnyH_take (i := 4) (v := ?_) rfl (by kernel_rfl) (by kernel_rfl) (by kernel_rfl) (fun _ _ _ h => h) (Or.inl ⟨by kernel_rfl, ?_⟩) hHeld ?_
    rotate_left
    · intro w hSw
      have hl := ld_pr hSw
      go_simp
      first | (with_reducible rfl) | (rw [if_neg (by first | omega | (simp; omega))])
    refine wpAnyH_ready (rs := [5, 6]) (by kernel_rfl) (by simp) ?_
    refine (AllReadyH.cons rfl (fun K hK => ?_) (AllReadyH.cons rfl (fun K hK => ?_) AllReadyH.nil))
    · go_simp
      have h1 := hHeld.alloc (.cells z4 48)
      refine hK.out _ _ h1 (fun hHeld => ?_)
      clear hK K h1
      refine wpAnyH_ready (rs := [6]) (by kernel_rfl) (by simp) ?_
      refine AllReadyH.cons rfl (fun K hK => ?_) AllReadyH.nil
      go_simp
      have h2 := hHeld.alloc (.cells poC 47)
      refine hK.out _ _ h2 (fun hHeld => ?_)
      clear hK K
      clear h2
      have hd : Blk (((Wb.alloc (.cells z4 48)).alloc (.cells poC 47)).drew) w.heap.size 54 (cxC 0) := Blk.below ((X4.out.alloc (.cells z4 48)).alloc (.cells poC 47)) (Below.refl _ _).drew
      refine wpAnyH_ready (rs := [7]) (by kernel_rfl) (by simp) ?_
      refine AllReadyH.cons rfl (fun K hK => ?_) AllReadyH.nil
      go_simp
      refine hK.out _ _ hd (fun hHeld => ?_)
      clear hK K
      refine wpAnyH_ready (rs := [8]) (by kernel_rfl) (by simp) ?_
      refine AllReadyH.cons rfl (fun K hK => ?_) AllReadyH.nil
      go_simp
      refine hK.out _ _ hd (fun hHeld => ?_)
      clear hK K
      have hA : Blk (((Wb.alloc (.cells z4 48)).alloc (.cells poC 47)).drew) Wb.heap.size 48 z4 := Blk.below ((Blk.new Wb z4 48).alloc (.cells poC 47)) (Below.refl _ _).drew
      have hB0 : Blk ((Wb.alloc (.cells z4 48)).alloc (.cells poC 47)) (Wb.heap.size + 1) 47 poC := (by have := Blk.new (Wb.alloc (.cells z4 48)) poC 47; simpa using this)
      have hB : Blk (((Wb.alloc (.cells z4 48)).alloc (.cells poC 47)).drew) (Wb.heap.size + 1) 47 poC := Blk.below hB0 (Below.refl _ _).drew
      have hL : Below Wb.heap.size Wb (((Wb.alloc (.cells z4 48)).alloc (.cells poC 47)).drew) := (((Below.refl _ _).alloc (Nat.le_refl _) _).alloc (by simp) _).drew
      clear hB0 hd
      refine wpAnyH_done (by kernel_rfl) ?_ _
      go_wp2_with fail
      go_meet
      exact ⟨_, _, by omega, by omega, rfl, rfl, hA, hB, hL⟩
    · go_simp
      have h1 := hHeld.alloc (.cells poC 47)
      refine hK.out _ _ h1 (fun hHeld => ?_)
      clear hK K h1
      refine wpAnyH_ready (rs := [5]) (by kernel_rfl) (by simp) ?_
      refine AllReadyH.cons rfl (fun K hK => ?_) AllReadyH.nil
      go_simp
      have h2 := hHeld.alloc (.cells z4 48)
      refine hK.out _ _ h2 (fun hHeld => ?_)
      clear hK K
      clear h2
      have hd : Blk (((Wb.alloc (.cells poC 47)).alloc (.cells z4 48)).drew) w.heap.size 54 (cxC 0) := Blk.below ((X4.out.alloc (.cells poC 47)).alloc (.cells z4 48)) (Below.refl _ _).drew
      refine wpAnyH_ready (rs := [7]) (by kernel_rfl) (by simp) ?_
      refine AllReadyH.cons rfl (fun K hK => ?_) AllReadyH.nil
      go_simp
      refine hK.out _ _ hd (fun hHeld => ?_)
      clear hK K
      refine wpAnyH_ready (rs := [8]) (by kernel_rfl) (by simp) ?_
      refine AllReadyH.cons rfl (fun K hK => ?_) AllReadyH.nil
      go_simp
      refine hK.out _ _ hd (fun hHeld => ?_)
      clear hK K
      have hA : Blk (((Wb.alloc (.cells poC 47)).alloc (.cells z4 48)).drew) Wb.heap.size 47 poC := Blk.below ((Blk.new Wb poC 47).alloc (.cells z4 48)) (Below.refl _ _).drew
      have hB0 : Blk ((Wb.alloc (.cells poC 47)).alloc (.cells z4 48)) (Wb.heap.size + 1) 48 z4 := (by have := Blk.new (Wb.alloc (.cells poC 47)) z4 48; simpa using this)
      have hB : Blk (((Wb.alloc (.cells poC 47)).alloc (.cells z4 48)).drew) (Wb.heap.size + 1) 48 z4 := Blk.below hB0 (Below.refl _ _).drew
      have hL : Below Wb.heap.size Wb (((Wb.alloc (.cells poC 47)).alloc (.cells z4 48)).drew) := (((Below.refl _ _).alloc (Nat.le_refl _) _).alloc (by simp) _).drew
      clear hB0 hd
      refine wpAnyH_done (by kernel_rfl) ?_ _
      go_wp2_with fail
      go_meet
      exact ⟨_, _, by omega, by omega, rfl, rfl, hB, hA, hL⟩
  case rest =>
  obtain ⟨g6, g7, hl6, hl7, rfl, rfl, x6, x7, hb⟩ := hcut
  have HBc := Lib.hid (below_then HBa.out hb)
  have HGc := Lib.hid (Blk.keep HG.out HBc.out hlt)
  have x4 := Blk.below X4.out hb
  have hg4 : g ≠ w.heap.size := by omega
  have SY0 := Lib.hid (show SyB wc w.heap.size g6 g7 from ⟨x4, x6, x7⟩)
  clear x4 x6 x7 hb HG HBa X4
  go_upto_region 5 with (fail)
  have HBc := Lib.hid HBc.out.drew
  have HGc := Lib.hid (Blk.below HGc.out (Below.refl wc.heap.size wc).drew)
  refine wp_region_held_drew (S := (fun W' => SyB W' w.heap.size g6 g7)) (by kernel_rfl) (SY0.out.below (Below.refl _ _).drew) (fun hHeld => ?_)
  clear SY0
  refine wpAnyH_take (i := 0) (v := ?_) rfl (by kernel_rfl) (by kernel_rfl) (by kernel_rfl) (fun _ _ _ h => h) (Or.inl ⟨by kernel_rfl, ?_⟩) hHeld ?_
  rotate_left
  · intro w hSw
    go_simp
    first | (with_reducible rfl) | (rw [if_neg (by first | omega | (simp; omega))])
  refine wpAnyH_take (i := 1) (v := ?_) rfl (by kernel_rfl) (by kernel_rfl) (by kernel_rfl) (fun _ _ _ h => h) (Or.inl ⟨by kernel_rfl, ?_⟩) hHeld ?_
  rotate_left
  · intro w hSw
    go_simp
    first | (with_reducible rfl) | (rw [if_neg (by first | omega | (simp; omega))])
  refine wpAnyH_take (i := 2) (v := ?_) rfl (by kernel_rfl) (by kernel_rfl) (by kernel_rfl) (fun _ _ _ h => h) (Or.inl ⟨by kernel_rfl, ?_⟩) hHeld ?_
  rotate_left
  · intro w hSw
    go_simp
    first | (with_reducible rfl) | (rw [if_neg (by first | omega | (simp; omega))])
  refine wpAnyH_take (i := 3) (v := ?_) rfl (by kernel_rfl) (by kernel_rfl) (by kernel_rfl) (fun _ _ _ h => h) (Or.inl ⟨by kernel_rfl, ?_⟩) hHeld ?_
  rotate_left
  · intro w hSw
    have kk := (hSw.x4.cell 15).trans (cx_15 0)
    go_simp
    first | (with_reducible rfl) | (rw [if_neg (by first | omega | (simp; omega))])
  refine wpAnyH_take (i := 6) (v := ?_) rfl (by kernel_rfl) (by kernel_rfl) (by kernel_rfl) (fun _ _ _ h => h) (Or.inl ⟨by kernel_rfl, ?_⟩) hHeld ?_
  rotate_left
  · intro w hSw
    go_simp
    first | (with_reducible rfl) | (rw [if_neg (by first | omega | (simp; omega))])
  refine wpAnyH_take (i := 8) (v := ?_) rfl (by kernel_rfl) (by kernel_rfl) (by kernel_rfl) (fun _ _ _ h => h) (Or.inl ⟨by kernel_rfl, ?_⟩) hHeld ?_
  rotate_left
  · intro w hSw
    go_simp
    first | (with_reducible rfl) | (rw [if_neg (by first | omega | (simp; omega))])
  refine wpAnyH_take (i := 9) (v := ?_) rfl (by kernel_rfl) (by kernel_rfl) (by kernel_rfl) (fun _ _ _ h => h) (Or.inl ⟨by kernel_rfl, ?_⟩) hHeld ?_
  rotate_left
  · intro w hSw
    have kk := (hSw.x4.cell 22).trans (cx_22 0)
    go_simp
    first | (with_reducible rfl) | (rw [if_neg (by first | omega | (simp; omega))])
  refine wpAnyH_take (i := 11) (v := ?_) rfl (by kernel_rfl) (by kernel_rfl) (by kernel_rfl) (fun _ _ _ h => h) (Or.inl ⟨by kernel_rfl, ?_⟩) hHeld ?_
  rotate_left
  · intro w hSw
    go_simp
    first | (with_reducible rfl) | (rw [if_neg (by first | omega | (simp; omega))])
  refine wpAnyH_take (i := 12) (v := ?_) rfl (by kernel_rfl) (by kernel_rfl) (by kernel_rfl) (fun _ _ _ h => h) (Or.inl ⟨by kernel_rfl, ?_⟩) hHeld ?_
  rotate_left
  · intro w hSw
    have kk := hSw.x6.cell 0
    go_simp
    first | (with_reducible rfl) | (rw [if_neg (by first | omega | (simp; omega))])
  refine wpAnyH_take (i := 14) (v := ?_) rfl (by kernel_rfl) (by kernel_rfl) (by kernel_rfl) (fun _ _ _ h => h) (Or.inl ⟨by kernel_rfl, ?_⟩) hHeld ?_
  rotate_left
  · intro w hSw
    go_simp
    first | (with_reducible rfl) | (rw [if_neg (by first | omega | (simp; omega))])
  refine wpAnyH_take (i := 15) (v := ?_) rfl (by kernel_rfl) (by kernel_rfl) (by kernel_rfl) (fun _ _ _ h => h) (Or.inl ⟨by kernel_rfl, ?_⟩) hHeld ?_
  rotate_left
  · intro w hSw
    have kk := hSw.x6.cell 1
    go_simp
    first | (with_reducible rfl) | (rw [if_neg (by first | omega | (simp; omega))])
  refine wpAnyH_take (i := 17) (v := ?_) rfl (by kernel_rfl) (by kernel_rfl) (by kernel_rfl) (fun _ _ _ h => h) (Or.inl ⟨by kernel_rfl, ?_⟩) hHeld ?_
  rotate_left
  · intro w hSw
    go_simp
    first | (with_reducible rfl) | (rw [if_neg (by first | omega | (simp; omega))])
  refine wpAnyH_take (i := 18) (v := ?_) rfl (by kernel_rfl) (by kernel_rfl) (by kernel_rfl) (fun _ _ _ h => h) (Or.inl ⟨by kernel_rfl, ?_⟩) hHeld ?_
  rotate_left
  · intro w hSw
    have kk := hSw.x6.cell 2
    go_simp
    first | (with_reducible rfl) | (rw [if_neg (by first | omega | (simp; omega))])
  refine wpAnyH_take (i := 20) (v := ?_) rfl (by kernel_rfl) (by kernel_rfl) (by kernel_rfl) (fun _ _ _ h => h) (Or.inl ⟨by kernel_rfl, ?_⟩) hHeld ?_
  rotate_left
  · intro w hSw
    go_simp
    first | (with_reducible rfl) | (rw [if_neg (by first | omega | (simp; omega))])
  refine wpAnyH_take (i := 21) (v := ?_) rfl (by kernel_rfl) (by kernel_rfl) (by kernel_rfl) (fun _ _ _ h => h) (Or.inl ⟨by kernel_rfl, ?_⟩) hHeld ?_
  rotate_left
  · intro w hSw
    have kk := hSw.x6.cell 3
    go_simp
    first | (with_reducible rfl) | (rw [if_neg (by first | omega | (simp; omega))])
  refine wpAnyH_take (i := 23) (v := ?_) rfl (by kernel_rfl) (by kernel_rfl) (by kernel_rfl) (fun _ _ _ h => h) (Or.inl ⟨by kernel_rfl, ?_⟩) hHeld ?_
  rotate_left
  · intro w hSw
    go_simp
    first | (with_reducible rfl) | (rw [if_neg (by first | omega | (simp; omega))])
  refine wpAnyH_take (i := 24) (v := ?_) rfl (by kernel_rfl) (by kernel_rfl) (by kernel_rfl) (fun _ _ _ h => h) (Or.inl ⟨by kernel_rfl, ?_⟩) hHeld ?_
  rotate_left
  · intro w hSw
    have kk := (hSw.x4.cell 23).trans (cx_23 0)
    go_simp
    first | (with_reducible rfl) | (rw [if_neg (by first | omega | (simp; omega))])
  refine wpAnyH_take (i := 25) (v := ?_) rfl (by kernel_rfl) (by kernel_rfl) (by kernel_rfl) (fun _ _ _ h => h) (Or.inl ⟨by kernel_rfl, ?_⟩) hHeld ?_
  rotate_left
  · intro w hSw
    go_simp
    first | (with_reducible rfl) | (rw [if_neg (by first | omega | (simp; omega))])
  refine wpAnyH_take (i := 27) (v := ?_) rfl (by kernel_rfl) (by kernel_rfl) (by kernel_rfl) (fun _ _ _ h => h) (Or.inl ⟨by kernel_rfl, ?_⟩) hHeld ?_
  rotate_left
  · intro w hSw
    go_simp
    first | (with_reducible rfl) | (rw [if_neg (by first | omega | (simp; omega))])
  refine wpAnyH_take (i := 28) (v := ?_) rfl (by kernel_rfl) (by kernel_rfl) (by kernel_rfl) (fun _ _ _ h => h) (Or.inl ⟨by kernel_rfl, ?_⟩) hHeld ?_
  rotate_left
  · intro w hSw
    have kk := hSw.x7.cell 1
    go_simp
    first | (with_reducible rfl) | (rw [if_neg (by first | omega | (simp; omega))])
  refine wpAnyH_take (i := 30) (v := ?_) rfl (by kernel_rfl) (by kernel_rfl) (by kernel_rfl) (fun _ _ _ h => h) (Or.inl ⟨by kernel_rfl, ?_⟩) hHeld ?_
  rotate_left
  · intro w hSw
    go_simp
    first | (with_reducible rfl) | (rw [if_neg (by first | omega | (simp; omega))])
  refine wpAnyH_take (i := 31) (v := ?_) rfl (by kernel_rfl) (by kernel_rfl) (by kernel_rfl) (fun _ _ _ h => h) (Or.inl ⟨by kernel_rfl, ?_⟩) hHeld ?_
  rotate_left
  · intro w hSw
    have kk := hSw.x7.cell 0
    go_simp
    first | (with_reducible rfl) | (rw [if_neg (by first | omega | (simp; omega))])
  refine wpAnyH_take (i := 33) (v := ?_) rfl (by kernel_rfl) (by kernel_rfl) (by kernel_rfl) (fun _ _ _ h => h) (Or.inl ⟨by kernel_rfl, ?_⟩) hHeld ?_
  rotate_left
  · intro w hSw
    go_simp
    first | (with_reducible rfl) | (rw [if_neg (by first | omega | (simp; omega))])
  refine wpAnyH_take (i := 34) (v := ?_) rfl (by kernel_rfl) (by kernel_rfl) (by kernel_rfl) (fun _ _ _ h => h) (Or.inl ⟨by kernel_rfl, ?_⟩) hHeld ?_
  rotate_left
  · intro w hSw
    have kk := hSw.x7.cell 6
    go_simp
    first | (with_reducible rfl) | (rw [if_neg (by first | omega | (simp; omega))])
  refine wpAnyH_take (i := 36) (v := ?_) rfl (by kernel_rfl) (by kernel_rfl) (by kernel_rfl) (fun _ _ _ h => h) (Or.inl ⟨by kernel_rfl, ?_⟩) hHeld ?_
  rotate_left
  · intro w hSw
    go_simp
    first | (with_reducible rfl) | (rw [if_neg (by first | omega | (simp; omega))])
  refine wpAnyH_take (i := 37) (v := ?_) rfl (by kernel_rfl) (by kernel_rfl) (by kernel_rfl) (fun _ _ _ h => h) (Or.inl ⟨by kernel_rfl, ?_⟩) hHeld ?_
  rotate_left
  · intro w hSw
    have kk := hSw.x7.cell 2
    go_simp
    first | (with_reducible rfl) | (rw [if_neg (by first | omega | (simp; omega))])
  refine wpAnyH_take (i := 39) (v := ?_) rfl (by kernel_rfl) (by kernel_rfl) (by kernel_rfl) (fun _ _ _ h => h) (Or.inl ⟨by kernel_rfl, ?_⟩) hHeld ?_
  rotate_left
  · intro w hSw
    go_simp
    first | (with_reducible rfl) | (rw [if_neg (by first | omega | (simp; omega))])
  refine wpAnyH_take (i := 40) (v := ?_) rfl (by kernel_rfl) (by kernel_rfl) (by kernel_rfl) (fun _ _ _ h => h) (Or.inl ⟨by kernel_rfl, ?_⟩) hHeld ?_
  rotate_left
  · intro w hSw
    have kk := hSw.x7.cell 4
    go_simp
    first | (with_reducible rfl) | (rw [if_neg (by first | omega | (simp; omega))])
  refine wpAnyH_take (i := 42) (v := ?_) rfl (by kernel_rfl) (by kernel_rfl) (by kernel_rfl) (fun _ _ _ h => h) (Or.inl ⟨by kernel_rfl, ?_⟩) hHeld ?_
  rotate_left
  · intro w hSw
    go_simp
    first | (with_reducible rfl) | (rw [if_neg (by first | omega | (simp; omega))])
  refine wpAnyH_take (i := 43) (v := ?_) rfl (by kernel_rfl) (by kernel_rfl) (by kernel_rfl) (fun _ _ _ h => h) (Or.inl ⟨by kernel_rfl, ?_⟩) hHeld ?_
  rotate_left
  · intro w hSw
    have kk := hSw.x7.cell 3
    go_simp
    first | (with_reducible rfl) | (rw [if_neg (by first | omega | (simp; omega))])
  refine wpAnyH_take (i := 45) (v := ?_) rfl (by kernel_rfl) (by kernel_rfl) (by kernel_rfl) (fun _ _ _ h => h) (Or.inl ⟨by kernel_rfl, ?_⟩) hHeld ?_
  rotate_left
  · intro w hSw
    go_simp
    first | (with_reducible rfl) | (rw [if_neg (by first | omega | (simp; omega))])
  refine wpAnyH_take (i := 46) (v := ?_) rfl (by kernel_rfl) (by kernel_rfl) (by kernel_rfl) (fun _ _ _ h => h) (Or.inl ⟨by kernel_rfl, ?_⟩) hHeld ?_
  rotate_left
  · intro w hSw
    have kk := hSw.x7.cell 5
    go_simp
    first | (with_reducible rfl) | (rw [if_neg (by first | omega | (simp; omega))])
  refine wpAnyH_take (i := 48) (v := ?_) rfl (by kernel_rfl) (by kernel_rfl) (by kernel_rfl) (fun _ _ _ h => h) (Or.inl ⟨by kernel_rfl, ?_⟩) hHeld ?_
  rotate_left
  · intro w hSw
    go_simp
    first | (with_reducible rfl) | (rw [if_neg (by first | omega | (simp; omega))])
  refine wpAnyH_take (i := 49) (v := ?_) rfl (by kernel_rfl) (by kernel_rfl) (by kernel_rfl) (fun _ _ _ h => h) (Or.inl ⟨by kernel_rfl, ?_⟩) hHeld ?_
  rotate_left
  · intro w hSw
    have kk := hSw.x7.cell 7
    go_simp
    first | (with_reducible rfl) | (rw [if_neg (by first | omega | (simp; omega))])
  refine wpAnyH_take (i := 51) (v := ?_) rfl (by kernel_rfl) (by kernel_rfl) (by kernel_rfl) (fun _ _ _ h => h) (Or.inl ⟨by kernel_rfl, ?_⟩) hHeld ?_
  rotate_left
  · intro w hSw
    go_simp
    first | (with_reducible rfl) | (rw [if_neg (by first | omega | (simp; omega))])
  refine wpAnyH_take (i := 52) (v := ?_) rfl (by kernel_rfl) (by kernel_rfl) (by kernel_rfl) (fun _ _ _ h => h) (Or.inl ⟨by kernel_rfl, ?_⟩) hHeld ?_
  rotate_left
  · intro w hSw
    have kk := hSw.x7.cell 10
    go_simp
    first | (with_reducible rfl) | (rw [if_neg (by first | omega | (simp; omega))])
  refine wpAnyH_take (i := 54) (v := ?_) rfl (by kernel_rfl) (by kernel_rfl) (by kernel_rfl) (fun _ _ _ h => h) (Or.inl ⟨by kernel_rfl, ?_⟩) hHeld ?_
  rotate_left
  · intro w hSw
    go_simp
    first | (with_reducible rfl) | (rw [if_neg (by first | omega | (simp; omega))])
  refine wpAnyH_take (i := 55) (v := ?_) rfl (by kernel_rfl) (by kernel_rfl) (by kernel_rfl) (fun _ _ _ h => h) (Or.inl ⟨by kernel_rfl, ?_⟩) hHeld ?_
  rotate_left
  · intro w hSw
    have kk := hSw.x7.cell 11
    go_simp
    first | (with_reducible rfl) | (rw [if_neg (by first | omega | (simp; omega))])
  refine wpAnyH_take (i := 57) (v := ?_) rfl (by kernel_rfl) (by kernel_rfl) (by kernel_rfl) (fun _ _ _ h => h) (Or.inl ⟨by kernel_rfl, ?_⟩) hHeld ?_
  rotate_left
  · intro w hSw
    go_simp
    first | (with_reducible rfl) | (rw [if_neg (by first | omega | (simp; omega))])
  refine wpAnyH_ready (rs := [4]) (by kernel_rfl) (by simp) ?_
  refine AllReadyH.cons rfl (fun K hK => ?_) AllReadyH.nil
  go_simp
  go_at_call 92
  refine (vnameI 3 _ (HC.out _ HBc.out)).mono ?_
  rintro e wl ⟨rfl, rfl⟩
  go_simp
  refine hK.out _ _ hHeld (fun hHeld => ?_)
  clear hK K
  refine wpAnyH_ready (rs := [5]) (by kernel_rfl) (by simp) ?_
  refine AllReadyH.cons rfl (fun K hK => ?_) AllReadyH.nil
  go_simp
  go_at_call 47
  refine (vtextE _ _ name_le _).mono ?_
  rintro e wl ⟨rfl, hb⟩
  have HGc := Lib.hid (Blk.below HGc.out hb)
  have HBc := Lib.hid (below_then HBc.out hb)
  have hh := hHeld.below hb
  clear hb
  go_simp
  refine hK.out _ _ hh (fun hHeld => ?_)
  clear hK K
  clear hh
  refine wpAnyH_ready (rs := [7]) (by kernel_rfl) (by simp) ?_
  refine AllReadyH.cons rfl (fun K hK => ?_) AllReadyH.nil
  go_simp
  go_at_call 47
  refine (vtextE _ _ (by show 3 ≤ 640; omega) _).mono ?_
  rintro e wl ⟨rfl, hb⟩
  have HGc := Lib.hid (Blk.below HGc.out hb)
  have HBc := Lib.hid (below_then HBc.out hb)
  have hh := hHeld.below hb
  clear hb
  go_simp
  refine hK.out _ _ hh (fun hHeld => ?_)
  clear hK K
  clear hh
  refine wpAnyH_ready (rs := [10]) (by kernel_rfl) (by simp) ?_
  refine AllReadyH.cons rfl (fun K hK => ?_) AllReadyH.nil
  go_simp
  go_at_call 48
  refine (vnumE _ _ _).mono ?_
  rintro e wl ⟨rfl, hb⟩
  have HGc := Lib.hid (Blk.below HGc.out hb)
  have HBc := Lib.hid (below_then HBc.out hb)
  have hh := hHeld.below hb
  clear hb
  go_simp
  refine hK.out _ _ hh (fun hHeld => ?_)
  clear hK K
  clear hh
  refine wpAnyH_ready (rs := [13]) (by kernel_rfl) (by simp) ?_
  refine AllReadyH.cons rfl (fun K hK => ?_) AllReadyH.nil
  go_simp
  go_at_call 48
  refine (vnumE _ _ _).mono ?_
  rintro e wl ⟨rfl, hb⟩
  have HGc := Lib.hid (Blk.below HGc.out hb)
  have HBc := Lib.hid (below_then HBc.out hb)
  have hh := hHeld.below hb
  clear hb
  go_simp
  refine hK.out _ _ hh (fun hHeld => ?_)
  clear hK K
  clear hh
  refine wpAnyH_ready (rs := [16]) (by kernel_rfl) (by simp) ?_
  refine AllReadyH.cons rfl (fun K hK => ?_) AllReadyH.nil
  go_simp
  go_at_call 48
  refine (vnumE _ _ _).mono ?_
  rintro e wl ⟨rfl, hb⟩
  have HGc := Lib.hid (Blk.below HGc.out hb)
  have HBc := Lib.hid (below_then HBc.out hb)
  have hh := hHeld.below hb
  clear hb
  go_simp
  refine hK.out _ _ hh (fun hHeld => ?_)
  clear hK K
  clear hh
  refine wpAnyH_ready (rs := [19]) (by kernel_rfl) (by simp) ?_
  refine AllReadyH.cons rfl (fun K hK => ?_) AllReadyH.nil
  go_simp
  go_at_call 48
  refine (vnumE _ _ _).mono ?_
  rintro e wl ⟨rfl, hb⟩
  have HGc := Lib.hid (Blk.below HGc.out hb)
  have HBc := Lib.hid (below_then HBc.out hb)
  have hh := hHeld.below hb
  clear hb
  go_simp
  refine hK.out _ _ hh (fun hHeld => ?_)
  clear hK K
  clear hh
  refine wpAnyH_ready (rs := [22]) (by kernel_rfl) (by simp) ?_
  refine AllReadyH.cons rfl (fun K hK => ?_) AllReadyH.nil
  go_simp
  go_at_call 48
  refine (vnumE _ _ _).mono ?_
  rintro e wl ⟨rfl, hb⟩
  have HGc := Lib.hid (Blk.below HGc.out hb)
  have HBc := Lib.hid (below_then HBc.out hb)
  have hh := hHeld.below hb
  clear hb
  go_simp
  refine hK.out _ _ hh (fun hHeld => ?_)
  clear hK K
  clear hh
  refine wpAnyH_ready (rs := [26]) (by kernel_rfl) (by simp) ?_
  refine AllReadyH.cons rfl (fun K hK => ?_) AllReadyH.nil
  go_simp
  go_at_call 48
  refine (vnumE _ _ _).mono ?_
  rintro e wl ⟨rfl, hb⟩
  have HGc := Lib.hid (Blk.below HGc.out hb)
  have HBc := Lib.hid (below_then HBc.out hb)
  have hh := hHeld.below hb
  clear hb
  go_simp
  refine hK.out _ _ hh (fun hHeld => ?_)
  clear hK K
  clear hh
  refine wpAnyH_ready (rs := [29]) (by kernel_rfl) (by simp) ?_
  refine AllReadyH.cons rfl (fun K hK => ?_) AllReadyH.nil
  go_simp
  go_at_call 48
  refine (vnumE _ _ _).mono ?_
  rintro e wl ⟨rfl, hb⟩
  have HGc := Lib.hid (Blk.below HGc.out hb)
  have HBc := Lib.hid (below_then HBc.out hb)
  have hh := hHeld.below hb
  clear hb
  go_simp
  refine hK.out _ _ hh (fun hHeld => ?_)
  clear hK K
  clear hh
  refine wpAnyH_ready (rs := [32]) (by kernel_rfl) (by simp) ?_
  refine AllReadyH.cons rfl (fun K hK => ?_) AllReadyH.nil
  go_simp
  go_at_call 48
  refine (vnumE _ _ _).mono ?_
  rintro e wl ⟨rfl, hb⟩
  have HGc := Lib.hid (Blk.below HGc.out hb)
  have HBc := Lib.hid (below_then HBc.out hb)
  have hh := hHeld.below hb
  clear hb
  go_simp
  refine hK.out _ _ hh (fun hHeld => ?_)
  clear hK K
  clear hh
  refine wpAnyH_ready (rs := [35]) (by kernel_rfl) (by simp) ?_
  refine AllReadyH.cons rfl (fun K hK => ?_) AllReadyH.nil
  go_simp
  go_at_call 48
  refine (vnumE _ _ _).mono ?_
  rintro e wl ⟨rfl, hb⟩
  have HGc := Lib.hid (Blk.below HGc.out hb)
  have HBc := Lib.hid (below_then HBc.out hb)
  have hh := hHeld.below hb
  clear hb
  go_simp
  refine hK.out _ _ hh (fun hHeld => ?_)
  clear hK K
  clear hh
  refine wpAnyH_ready (rs := [38]) (by kernel_rfl) (by simp) ?_
  refine AllReadyH.cons rfl (fun K hK => ?_) AllReadyH.nil
  go_simp
  go_at_call 48
  refine (vnumE _ _ _).mono ?_
  rintro e wl ⟨rfl, hb⟩
  have HGc := Lib.hid (Blk.below HGc.out hb)
  have HBc := Lib.hid (below_then HBc.out hb)
  have hh := hHeld.below hb
  clear hb
  go_simp
  refine hK.out _ _ hh (fun hHeld => ?_)
  clear hK K
  clear hh
  refine wpAnyH_ready (rs := [41]) (by kernel_rfl) (by simp) ?_
  refine AllReadyH.cons rfl (fun K hK => ?_) AllReadyH.nil
  go_simp
  go_at_call 48
  refine (vnumE _ _ _).mono ?_
  rintro e wl ⟨rfl, hb⟩
  have HGc := Lib.hid (Blk.below HGc.out hb)
  have HBc := Lib.hid (below_then HBc.out hb)
  have hh := hHeld.below hb
  clear hb
  go_simp
  refine hK.out _ _ hh (fun hHeld => ?_)
  clear hK K
  clear hh
  refine wpAnyH_ready (rs := [44]) (by kernel_rfl) (by simp) ?_
  refine AllReadyH.cons rfl (fun K hK => ?_) AllReadyH.nil
  go_simp
  go_at_call 48
  refine (vnumE _ _ _).mono ?_
  rintro e wl ⟨rfl, hb⟩
  have HGc := Lib.hid (Blk.below HGc.out hb)
  have HBc := Lib.hid (below_then HBc.out hb)
  have hh := hHeld.below hb
  clear hb
  go_simp
  refine hK.out _ _ hh (fun hHeld => ?_)
  clear hK K
  clear hh
  refine wpAnyH_ready (rs := [47]) (by kernel_rfl) (by simp) ?_
  refine AllReadyH.cons rfl (fun K hK => ?_) AllReadyH.nil
  go_simp
  go_at_call 48
  refine (vnumE _ _ _).mono ?_
  rintro e wl ⟨rfl, hb⟩
  have HGc := Lib.hid (Blk.below HGc.out hb)
  have HBc := Lib.hid (below_then HBc.out hb)
  have hh := hHeld.below hb
  clear hb
  go_simp
  refine hK.out _ _ hh (fun hHeld => ?_)
  clear hK K
  clear hh
  refine wpAnyH_ready (rs := [50]) (by kernel_rfl) (by simp) ?_
  refine AllReadyH.cons rfl (fun K hK => ?_) AllReadyH.nil
  go_simp
  go_at_call 48
  refine (vnumE _ _ _).mono ?_
  rintro e wl ⟨rfl, hb⟩
  have HGc := Lib.hid (Blk.below HGc.out hb)
  have HBc := Lib.hid (below_then HBc.out hb)
  have hh := hHeld.below hb
  clear hb
  go_simp
  refine hK.out _ _ hh (fun hHeld => ?_)
  clear hK K
  clear hh
  refine wpAnyH_ready (rs := [53]) (by kernel_rfl) (by simp) ?_
  refine AllReadyH.cons rfl (fun K hK => ?_) AllReadyH.nil
  go_simp
  go_at_call 50
  refine (vnullE _ _).mono ?_
  rintro e wl ⟨rfl, hb⟩
  have HGc := Lib.hid (Blk.below HGc.out hb)
  have HBc := Lib.hid (below_then HBc.out hb)
  have hh := hHeld.below hb
  clear hb
  go_simp
  refine hK.out _ _ hh (fun hHeld => ?_)
  clear hK K
  clear hh
  refine wpAnyH_ready (rs := [56]) (by kernel_rfl) (by simp) ?_
  refine AllReadyH.cons rfl (fun K hK => ?_) AllReadyH.nil
  go_simp
  go_at_call 50
  refine (vnullE _ _).mono ?_
  rintro e wl ⟨rfl, hb⟩
  have HGc := Lib.hid (Blk.below HGc.out hb)
  have HBc := Lib.hid (below_then HBc.out hb)
  have hh := hHeld.below hb
  clear hb
  go_simp
  refine hK.out _ _ hh (fun hHeld => ?_)
  clear hK K
  clear hh
  refine wpAnyH_ready (rs := [58]) (by kernel_rfl) (by simp) ?_
  refine AllReadyH.cons rfl (fun K hK => ?_) AllReadyH.nil
  go_simp
  go_at_call 50
  refine (vkeyE _ _).mono ?_
  rintro e wl ⟨rfl, hb⟩
  have HGc := Lib.hid (Blk.below HGc.out hb)
  have HBc := Lib.hid (below_then HBc.out hb)
  have hh := hHeld.below hb
  clear hb
  go_simp
  refine hK.out _ _ hh (fun hHeld => ?_)
  clear hK K
  clear hh
  refine wpAnyH_ready (rs := [59]) (by kernel_rfl) (by simp) ?_
  refine AllReadyH.cons rfl (fun K hK => ?_) AllReadyH.nil
  have HGd := Lib.hid (HGc.out.alloc (.cells #[.string ⟨#[99, 97, 108, 108]⟩, .int .i64 2, .int .i64 0, .string (rowI 3).name, .string ⟨#[115, 117, 99, 99, 101, 115, 115]⟩, .int .i64 2, .int .i64 0, .string ⟨#[121, 101, 115]⟩, .string ⟨#[101, 120, 105, 116]⟩, .int .i64 1, .int .i64 0, .string ⟨#[]⟩, .string ⟨#[97, 48]⟩, .int .i64 1, .int .i64 0, .string ⟨#[]⟩, .string ⟨#[97, 49]⟩, .int .i64 1, .int .i64 0, .string ⟨#[]⟩, .string ⟨#[97, 50]⟩, .int .i64 1, .int .i64 0, .string ⟨#[]⟩, .string ⟨#[97, 51]⟩, .int .i64 1, .int .i64 0, .string ⟨#[]⟩, .string ⟨#[105, 116, 101, 109, 115]⟩, .int .i64 1, .int .i64 0, .string ⟨#[]⟩, .string ⟨#[112, 112, 105, 100]⟩, .int .i64 1, .int .i64 0, .string ⟨#[]⟩, .string ⟨#[112, 105, 100]⟩, .int .i64 1, .int .i64 0, .string ⟨#[]⟩, .string ⟨#[97, 117, 105, 100]⟩, .int .i64 1, .int .i64 0, .string ⟨#[]⟩, .string ⟨#[117, 105, 100]⟩, .int .i64 1, .int .i64 0, .string ⟨#[]⟩, .string ⟨#[103, 105, 100]⟩, .int .i64 1, .int .i64 0, .string ⟨#[]⟩, .string ⟨#[101, 117, 105, 100]⟩, .int .i64 1, .int .i64 0, .string ⟨#[]⟩, .string ⟨#[101, 103, 105, 100]⟩, .int .i64 1, .int .i64 0, .string ⟨#[]⟩, .string ⟨#[115, 101, 115]⟩, .int .i64 1, .int .i64 0, .string ⟨#[]⟩, .string ⟨#[99, 111, 109, 109]⟩, .int .i64 3, .int .i64 0, .string ⟨#[]⟩, .string ⟨#[101, 120, 101]⟩, .int .i64 3, .int .i64 0, .string ⟨#[]⟩, .string ⟨#[107, 101, 121]⟩, .int .i64 2, .int .i64 0, .string ⟨#[107]⟩] 79))
  have HBd := Lib.hid (HBc.out.alloc HBc.out.size (.cells #[.string ⟨#[99, 97, 108, 108]⟩, .int .i64 2, .int .i64 0, .string (rowI 3).name, .string ⟨#[115, 117, 99, 99, 101, 115, 115]⟩, .int .i64 2, .int .i64 0, .string ⟨#[121, 101, 115]⟩, .string ⟨#[101, 120, 105, 116]⟩, .int .i64 1, .int .i64 0, .string ⟨#[]⟩, .string ⟨#[97, 48]⟩, .int .i64 1, .int .i64 0, .string ⟨#[]⟩, .string ⟨#[97, 49]⟩, .int .i64 1, .int .i64 0, .string ⟨#[]⟩, .string ⟨#[97, 50]⟩, .int .i64 1, .int .i64 0, .string ⟨#[]⟩, .string ⟨#[97, 51]⟩, .int .i64 1, .int .i64 0, .string ⟨#[]⟩, .string ⟨#[105, 116, 101, 109, 115]⟩, .int .i64 1, .int .i64 0, .string ⟨#[]⟩, .string ⟨#[112, 112, 105, 100]⟩, .int .i64 1, .int .i64 0, .string ⟨#[]⟩, .string ⟨#[112, 105, 100]⟩, .int .i64 1, .int .i64 0, .string ⟨#[]⟩, .string ⟨#[97, 117, 105, 100]⟩, .int .i64 1, .int .i64 0, .string ⟨#[]⟩, .string ⟨#[117, 105, 100]⟩, .int .i64 1, .int .i64 0, .string ⟨#[]⟩, .string ⟨#[103, 105, 100]⟩, .int .i64 1, .int .i64 0, .string ⟨#[]⟩, .string ⟨#[101, 117, 105, 100]⟩, .int .i64 1, .int .i64 0, .string ⟨#[]⟩, .string ⟨#[101, 103, 105, 100]⟩, .int .i64 1, .int .i64 0, .string ⟨#[]⟩, .string ⟨#[115, 101, 115]⟩, .int .i64 1, .int .i64 0, .string ⟨#[]⟩, .string ⟨#[99, 111, 109, 109]⟩, .int .i64 3, .int .i64 0, .string ⟨#[]⟩, .string ⟨#[101, 120, 101]⟩, .int .i64 3, .int .i64 0, .string ⟨#[]⟩, .string ⟨#[107, 101, 121]⟩, .int .i64 2, .int .i64 0, .string ⟨#[107]⟩] 79))
  have RW := Lib.hid (row_newEs EP wl #[.string ⟨#[99, 97, 108, 108]⟩, .int .i64 2, .int .i64 0, .string (rowI 3).name, .string ⟨#[115, 117, 99, 99, 101, 115, 115]⟩, .int .i64 2, .int .i64 0, .string ⟨#[121, 101, 115]⟩, .string ⟨#[101, 120, 105, 116]⟩, .int .i64 1, .int .i64 0, .string ⟨#[]⟩, .string ⟨#[97, 48]⟩, .int .i64 1, .int .i64 0, .string ⟨#[]⟩, .string ⟨#[97, 49]⟩, .int .i64 1, .int .i64 0, .string ⟨#[]⟩, .string ⟨#[97, 50]⟩, .int .i64 1, .int .i64 0, .string ⟨#[]⟩, .string ⟨#[97, 51]⟩, .int .i64 1, .int .i64 0, .string ⟨#[]⟩, .string ⟨#[105, 116, 101, 109, 115]⟩, .int .i64 1, .int .i64 0, .string ⟨#[]⟩, .string ⟨#[112, 112, 105, 100]⟩, .int .i64 1, .int .i64 0, .string ⟨#[]⟩, .string ⟨#[112, 105, 100]⟩, .int .i64 1, .int .i64 0, .string ⟨#[]⟩, .string ⟨#[97, 117, 105, 100]⟩, .int .i64 1, .int .i64 0, .string ⟨#[]⟩, .string ⟨#[117, 105, 100]⟩, .int .i64 1, .int .i64 0, .string ⟨#[]⟩, .string ⟨#[103, 105, 100]⟩, .int .i64 1, .int .i64 0, .string ⟨#[]⟩, .string ⟨#[101, 117, 105, 100]⟩, .int .i64 1, .int .i64 0, .string ⟨#[]⟩, .string ⟨#[101, 103, 105, 100]⟩, .int .i64 1, .int .i64 0, .string ⟨#[]⟩, .string ⟨#[115, 101, 115]⟩, .int .i64 1, .int .i64 0, .string ⟨#[]⟩, .string ⟨#[99, 111, 109, 109]⟩, .int .i64 3, .int .i64 0, .string ⟨#[]⟩, .string ⟨#[101, 120, 101]⟩, .int .i64 3, .int .i64 0, .string ⟨#[]⟩, .string ⟨#[107, 101, 121]⟩, .int .i64 2, .int .i64 0, .string ⟨#[107]⟩] 79 [⟨⟨#[99, 97, 108, 108]⟩, 2, 0, (rowI 3).name⟩, ⟨⟨#[115, 117, 99, 99, 101, 115, 115]⟩, 2, 0, ⟨#[121, 101, 115]⟩⟩, ⟨⟨#[101, 120, 105, 116]⟩, 1, 0, ⟨#[]⟩⟩, ⟨⟨#[97, 48]⟩, 1, 0, ⟨#[]⟩⟩, ⟨⟨#[97, 49]⟩, 1, 0, ⟨#[]⟩⟩, ⟨⟨#[97, 50]⟩, 1, 0, ⟨#[]⟩⟩, ⟨⟨#[97, 51]⟩, 1, 0, ⟨#[]⟩⟩, ⟨⟨#[105, 116, 101, 109, 115]⟩, 1, 0, ⟨#[]⟩⟩, ⟨⟨#[112, 112, 105, 100]⟩, 1, 0, ⟨#[]⟩⟩, ⟨⟨#[112, 105, 100]⟩, 1, 0, ⟨#[]⟩⟩, ⟨⟨#[97, 117, 105, 100]⟩, 1, 0, ⟨#[]⟩⟩, ⟨⟨#[117, 105, 100]⟩, 1, 0, ⟨#[]⟩⟩, ⟨⟨#[103, 105, 100]⟩, 1, 0, ⟨#[]⟩⟩, ⟨⟨#[101, 117, 105, 100]⟩, 1, 0, ⟨#[]⟩⟩, ⟨⟨#[101, 103, 105, 100]⟩, 1, 0, ⟨#[]⟩⟩, ⟨⟨#[115, 101, 115]⟩, 1, 0, ⟨#[]⟩⟩, ⟨⟨#[99, 111, 109, 109]⟩, 3, 0, ⟨#[]⟩⟩, ⟨⟨#[101, 120, 101]⟩, 3, 0, ⟨#[]⟩⟩, ⟨⟨#[107, 101, 121]⟩, 2, 0, ⟨#[107]⟩⟩] rfl (B := (wl.alloc (.cells #[.string ⟨#[99, 97, 108, 108]⟩, .int .i64 2, .int .i64 0, .string (rowI 3).name, .string ⟨#[115, 117, 99, 99, 101, 115, 115]⟩, .int .i64 2, .int .i64 0, .string ⟨#[121, 101, 115]⟩, .string ⟨#[101, 120, 105, 116]⟩, .int .i64 1, .int .i64 0, .string ⟨#[]⟩, .string ⟨#[97, 48]⟩, .int .i64 1, .int .i64 0, .string ⟨#[]⟩, .string ⟨#[97, 49]⟩, .int .i64 1, .int .i64 0, .string ⟨#[]⟩, .string ⟨#[97, 50]⟩, .int .i64 1, .int .i64 0, .string ⟨#[]⟩, .string ⟨#[97, 51]⟩, .int .i64 1, .int .i64 0, .string ⟨#[]⟩, .string ⟨#[105, 116, 101, 109, 115]⟩, .int .i64 1, .int .i64 0, .string ⟨#[]⟩, .string ⟨#[112, 112, 105, 100]⟩, .int .i64 1, .int .i64 0, .string ⟨#[]⟩, .string ⟨#[112, 105, 100]⟩, .int .i64 1, .int .i64 0, .string ⟨#[]⟩, .string ⟨#[97, 117, 105, 100]⟩, .int .i64 1, .int .i64 0, .string ⟨#[]⟩, .string ⟨#[117, 105, 100]⟩, .int .i64 1, .int .i64 0, .string ⟨#[]⟩, .string ⟨#[103, 105, 100]⟩, .int .i64 1, .int .i64 0, .string ⟨#[]⟩, .string ⟨#[101, 117, 105, 100]⟩, .int .i64 1, .int .i64 0, .string ⟨#[]⟩, .string ⟨#[101, 103, 105, 100]⟩, .int .i64 1, .int .i64 0, .string ⟨#[]⟩, .string ⟨#[115, 101, 115]⟩, .int .i64 1, .int .i64 0, .string ⟨#[]⟩, .string ⟨#[99, 111, 109, 109]⟩, .int .i64 3, .int .i64 0, .string ⟨#[]⟩, .string ⟨#[101, 120, 101]⟩, .int .i64 3, .int .i64 0, .string ⟨#[]⟩, .string ⟨#[107, 101, 121]⟩, .int .i64 2, .int .i64 0, .string ⟨#[107]⟩] 79)).heap.size) (by simp))
  have hh := hHeld.below ((Below.refl wl.heap.size wl).alloc (Nat.le_refl _) (.cells #[.string ⟨#[99, 97, 108, 108]⟩, .int .i64 2, .int .i64 0, .string (rowI 3).name, .string ⟨#[115, 117, 99, 99, 101, 115, 115]⟩, .int .i64 2, .int .i64 0, .string ⟨#[121, 101, 115]⟩, .string ⟨#[101, 120, 105, 116]⟩, .int .i64 1, .int .i64 0, .string ⟨#[]⟩, .string ⟨#[97, 48]⟩, .int .i64 1, .int .i64 0, .string ⟨#[]⟩, .string ⟨#[97, 49]⟩, .int .i64 1, .int .i64 0, .string ⟨#[]⟩, .string ⟨#[97, 50]⟩, .int .i64 1, .int .i64 0, .string ⟨#[]⟩, .string ⟨#[97, 51]⟩, .int .i64 1, .int .i64 0, .string ⟨#[]⟩, .string ⟨#[105, 116, 101, 109, 115]⟩, .int .i64 1, .int .i64 0, .string ⟨#[]⟩, .string ⟨#[112, 112, 105, 100]⟩, .int .i64 1, .int .i64 0, .string ⟨#[]⟩, .string ⟨#[112, 105, 100]⟩, .int .i64 1, .int .i64 0, .string ⟨#[]⟩, .string ⟨#[97, 117, 105, 100]⟩, .int .i64 1, .int .i64 0, .string ⟨#[]⟩, .string ⟨#[117, 105, 100]⟩, .int .i64 1, .int .i64 0, .string ⟨#[]⟩, .string ⟨#[103, 105, 100]⟩, .int .i64 1, .int .i64 0, .string ⟨#[]⟩, .string ⟨#[101, 117, 105, 100]⟩, .int .i64 1, .int .i64 0, .string ⟨#[]⟩, .string ⟨#[101, 103, 105, 100]⟩, .int .i64 1, .int .i64 0, .string ⟨#[]⟩, .string ⟨#[115, 101, 115]⟩, .int .i64 1, .int .i64 0, .string ⟨#[]⟩, .string ⟨#[99, 111, 109, 109]⟩, .int .i64 3, .int .i64 0, .string ⟨#[]⟩, .string ⟨#[101, 120, 101]⟩, .int .i64 3, .int .i64 0, .string ⟨#[]⟩, .string ⟨#[107, 101, 121]⟩, .int .i64 2, .int .i64 0, .string ⟨#[107]⟩] 79))
  go_simp
  refine hK.out _ _ hh (fun hHeld => ?_)
  clear hK K
  clear hh
  refine wpAnyH_ready (rs := [60]) (by kernel_rfl) (by simp) ?_
  refine AllReadyH.cons rfl (fun K hK => ?_) AllReadyH.nil
  go_simp
  go_at_call 46
  refine (vadd g (some ⟨wl.heap.size, 0, none⟩) 19 19 [⟨⟨#[99, 97, 108, 108]⟩, 2, 0, (rowI 3).name⟩, ⟨⟨#[115, 117, 99, 99, 101, 115, 115]⟩, 2, 0, ⟨#[121, 101, 115]⟩⟩, ⟨⟨#[101, 120, 105, 116]⟩, 1, 0, ⟨#[]⟩⟩, ⟨⟨#[97, 48]⟩, 1, 0, ⟨#[]⟩⟩, ⟨⟨#[97, 49]⟩, 1, 0, ⟨#[]⟩⟩, ⟨⟨#[97, 50]⟩, 1, 0, ⟨#[]⟩⟩, ⟨⟨#[97, 51]⟩, 1, 0, ⟨#[]⟩⟩, ⟨⟨#[105, 116, 101, 109, 115]⟩, 1, 0, ⟨#[]⟩⟩, ⟨⟨#[112, 112, 105, 100]⟩, 1, 0, ⟨#[]⟩⟩, ⟨⟨#[112, 105, 100]⟩, 1, 0, ⟨#[]⟩⟩, ⟨⟨#[97, 117, 105, 100]⟩, 1, 0, ⟨#[]⟩⟩, ⟨⟨#[117, 105, 100]⟩, 1, 0, ⟨#[]⟩⟩, ⟨⟨#[103, 105, 100]⟩, 1, 0, ⟨#[]⟩⟩, ⟨⟨#[101, 117, 105, 100]⟩, 1, 0, ⟨#[]⟩⟩, ⟨⟨#[101, 103, 105, 100]⟩, 1, 0, ⟨#[]⟩⟩, ⟨⟨#[115, 101, 115]⟩, 1, 0, ⟨#[]⟩⟩, ⟨⟨#[99, 111, 109, 109]⟩, 3, 0, ⟨#[]⟩⟩, ⟨⟨#[101, 120, 101]⟩, 3, 0, ⟨#[]⟩⟩, ⟨⟨#[107, 101, 121]⟩, 2, 0, ⟨#[107]⟩⟩] rfl (by omega) _ HGd.out RW.out).mono ?_
  rintro e wz ⟨v, x, rfl, hgz, hoz, t1, t2, t3, hgr⟩
  have hh : SyB wz w.heap.size g6 g7 := ⟨Blk.grown hHeld.x4 hgr (fun e => by injection e with e; omega), Blk.grown hHeld.x6 hgr (fun e => by injection e with e; omega), Blk.grown hHeld.x7 hgr (fun e => by injection e with e; omega)⟩
  have HF := Lib.hid (show AddPost g 19 w (.returned (.tuple #[])) wz from ⟨v, x, rfl, hgz, hoz.low HBd.out.size, t1, t2, t3, World.grownBy.trans ⟨HBd.out.os, HBd.out.tape, HBd.out.output, HBd.out.size, fun i hi _ => HBd.out.block i hi⟩ hgr⟩)
  clear hgz hoz t1 t2 t3 hgr
  go_simp
  refine hK.out _ _ hh (fun hHeld => ?_)
  clear hK K
  clear hh
  refine wpAnyH_done (by kernel_rfl) ?_ _
  go_wp2_with fail
  go_end0
  exact HF.out
end Go.Proofs.YtollifnnpihfdaaGreatDoor

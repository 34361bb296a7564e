/- Texts of one proof, laid together. -/
import Derived.Test.YtollifnnpihfdaaGreatDoorC03
import Derived.Deep.RegionHeld
/- Small functions of package emit, and add of a maker. -/
namespace Go.Proofs.YtollifnnpihfdaaGreatDoor
open Go.RowKit
abbrev prA (p : Pr) : Array Value := #[.string p.nm, .int .i64 p.kd, .int .i64 p.nu, .string p.tx]
theorem pr_one (p : Pr) : (prA p).all (·.oneCell') = true := by simp [Value.oneCell']
theorem pr_sz (p : Pr) : (Tryz.prog.info? 79).map (·.size) = some (prA p).size := by show _ = some 4; kernel_rfl
theorem pr_ret4 {fn : Func} (h : fn.results = #[.cell 4 79]) (tmps : Array Value) (w : World) (g : Nat) (p : Pr) (hp : tmps.getD 4 undef = .pointer (some ⟨g, 0, none⟩)) (hg : Blk w g 79 (prA p)) :
    (results fn tmps).run Tryz.prog w = .ok (prV p) w :=
  results_cell_row h tmps w g _ (prA p) (0, 0) _ hp hg Tryz.underlying79 rfl (by show _ = some 4; kernel_rfl)
theorem vnumE (s : ByteArray) (n : Int) (w : World) : Calls Tryz.prog 48 #[.string s, .int .i64 n] w fun e w' => e = .returned (prV ⟨s, 1, n, ⟨#[]⟩⟩) ∧ Below w.heap.size w w' := by
  go_enter Tryz.func48, Tryz.ntmps48
  go_wp2_with fail
  refine bodyPost_ret (pr_ret4 (fn := Tryz.f48) rfl _ _ w.heap.size ⟨s, 1, n, ⟨#[]⟩⟩ rfl (Blk.new w _ _)) rfl ?_
  exact ⟨rfl, (Below.refl _ _).alloc (Nat.le_refl _) _⟩
theorem vtextE (s t : ByteArray) (ht : t.size ≤ 640) (w : World) : Calls Tryz.prog 47 #[.string s, .string t] w fun e w' => e = .returned (prV ⟨s, 2, 0, t⟩) ∧ Below w.heap.size w w' := by
  have h1 : ¬ (640 : Int) < (t.size : Int) := by omega
  go_enter Tryz.func47, Tryz.ntmps47
  go_wp2_with fail
  refine bodyPost_ret (pr_ret4 (fn := Tryz.f47) rfl _ _ w.heap.size ⟨s, 2, 0, t⟩ rfl (Blk.new w _ _)) rfl ?_
  exact ⟨rfl, (Below.refl _ _).alloc (Nat.le_refl _) _⟩
theorem vnullE (s : ByteArray) (w : World) : Calls Tryz.prog 50 #[.string s, .string ⟨#[]⟩] w fun e w' => e = .returned (prV ⟨s, 3, 0, ⟨#[]⟩⟩) ∧ Below w.heap.size w w' := by
  go_enter Tryz.func50, Tryz.ntmps50
  go_wp2_with fail
  refine bodyPost_ret (pr_ret4 (fn := Tryz.f50) rfl _ _ w.heap.size ⟨s, 3, 0, ⟨#[]⟩⟩ rfl (Blk.new w _ _)) rfl ?_
  exact ⟨rfl, (Below.refl _ _).alloc (Nat.le_refl _) _⟩
theorem vkeyE (s : ByteArray) (w : World) : Calls Tryz.prog 50 #[.string s, .string ⟨#[107]⟩] w fun e w' => e = .returned (prV ⟨s, 2, 0, ⟨#[107]⟩⟩) ∧ Below w.heap.size w w' := by
  go_enter Tryz.func50, Tryz.ntmps50
  go_wp2_with fail
  refine (vtextE s ⟨#[107]⟩ (by show 1 ≤ 640; omega) _).mono ?_
  rintro e w1 ⟨rfl, hb1⟩
  have HX := Blk.below (Blk.new w #[.string ⟨#[]⟩, .int .i64 0, .int .i64 0, .string ⟨#[]⟩] 79) hb1
  go_wp2_with ((with_reducible refine store_blk ?_ 79 (.tmp 4) (.tmp 11) ?_ HX (prA ⟨s, 2, 0, ⟨#[107]⟩⟩) ?_ ?_ ?_ ?_ ?_ ?_); (iterate 4 rfl); (exact pr_sz _); rfl; (exact pr_one _))
  refine bodyPost_ret (pr_ret4 (fn := Tryz.f50) rfl _ _ w.heap.size ⟨s, 2, 0, ⟨#[107]⟩⟩ rfl (Blk.row HX _)) rfl ?_
  exact ⟨rfl, below_row (below_then ((Below.refl _ _).alloc (Nat.le_refl _) _) (by exact hb1)) (Nat.le_refl _) _⟩
theorem ld_any {P : Program} {w : World} {a : Addr} {ty : TypeId} {cs : Array Value} {d : TypeDesc} (h : ∀ j v, cs.toList[j]? = some v → w.cell? (a.add j) = some v)
    (hu : P.underlying ty = some d) (hd : (match d with | .struct _ | .array _ _ => true | _ => false) = true) (hi : (P.info? ty).map (·.size) = some cs.size) :
    (loadVar ty a).run P w = .ok (.agg cs) w := by
  have hl : (loadCells a cs.toList.length).run P w = .ok cs.toList.toArray w := run_loadCells_list (P := P) w a cs.toList h
  cases hq : P.info? ty with
  | none => simp [hq] at hi
  | some i =>
    have hs : i.size = cs.size := by simpa [hq] using hi
    have hagg : (isAgg ty).run P w = .ok true w := by
      unfold isAgg
      rw [Sem.run_bind, run_underlying hu w]
      cases d <;> simp_all
    simp only [Array.length_toList, Array.toArray_toList] at hl
    simp [loadVar, Sem.run_bind, hagg, sizeOf, typeInfo, hq, hs, hl]
theorem lv3 (a : Addr) (w : World) : (loadVar 3 a).run Tryz.prog w = (load a).run Tryz.prog w := by
  unfold loadVar
  simp [go_sem]
theorem lvRs (a : Addr) (w : World) : (loadVar 65 a).run Tryz.prog w = (load a).run Tryz.prog w := by
  unfold loadVar
  simp [go_sem]
theorem lvRu (a : Addr) (w : World) : (loadVar 38 a).run Tryz.prog w = (load a).run Tryz.prog w := by
  unfold loadVar
  simp [go_sem]
def cxC (t : Int) : Array Value := #[.int .i64 2, .int .i64 0, .int .i64 0, .int .i64 0, .int .i64 0, .int .i64 0, .int .i64 0, .int .i64 0, .int .i64 0, .int .i64 0, .int .i64 0, .string ⟨#[]⟩, .string ⟨#[]⟩, .slice none 0 0, .bool false, .int .i64 3, .int .i64 0, .int .i64 0, .int .i64 0, .int .i64 0, .slice none 0 0, .slice none 0 0, .int .i64 0, .slice none 0 0, .int .i64 t]
def mkC (v : Value) : Array Value := #[.slice none 0 0, .slice none 0 0, .int .i64 2, .int .i64 0, .int .i64 0, .int .i64 0, .int .i64 0, .int .i64 0, .int .i64 0, .int .i64 0, .int .i64 0, .int .i64 0, .int .i64 0, .string ⟨#[]⟩, .string ⟨#[]⟩, .slice none 0 0, .bool false, .int .i64 3, .int .i64 0, .int .i64 0, .int .i64 0, .int .i64 0, .slice none 0 0, .slice none 0 0, .int .i64 0, .slice none 0 0, .int .i64 0, .int .i64 5, v]
attribute [local irreducible] cxC mkC in
theorem vfirstn (v : Value) (w : World) : Calls Tryz.prog 220 #[.slice none 0 0, v] w fun e w' => e = .returned (.int .i64 (-1)) ∧ Below w.heap.size w w' := by
  go_enter Tryz.func220, Tryz.ntmps220
  go_wp2_with fail
  go_loopw [9] (fun i wr => i = .int .i64 0 ∧ wr = w) (fun i _ => 0)
  case atStart => exact ⟨rfl, rfl⟩
  case round =>
    obtain ⟨rfl, rfl⟩ := hrel
    go_wp2_with fail
    go_ret
    exact ⟨rfl, Below.refl _ _⟩
attribute [local irreducible] cxC mkC in
theorem vFirst0 (l : Int) (t : Int) (w : World) : Calls Tryz.prog 157 #[.slice none 0 0, .int .i64 l, .slice none 0 0, .agg (cxC t)] w fun e w' => e = .returned (.int .i64 (-1)) ∧ Below w.heap.size w w' := by
  go_enter Tryz.func157, Tryz.ntmps157
  go_wp2_with fail
  refine (vfirstn _ _).mono ?_
  rintro e w1 ⟨rfl, hb1⟩
  go_wp2_with fail
  go_ret
  refine ⟨rfl, below_then ?_ hb1⟩
  exact (((Below.refl _ _).alloc (Nat.le_refl _) _).alloc (by simp) _).alloc (by simp; omega) _
theorem cx_sz (t : Int) : (Tryz.prog.info? 54).map (·.size) = some (cxC t).size := by show _ = some 25; kernel_rfl
theorem cx_at (t : Int) : (cxC t)[24]? = some (.int .i64 t) := rfl
theorem cx_set (t : Int) : (cxC 0).setIfInBounds 24 (.int .i64 t) = cxC t := rfl
theorem mk_list (v : Value) : (mkC v).toList = [.slice none 0 0, .slice none 0 0] ++ ((cxC 0).toList ++ [.int .i64 5, v]) := rfl
theorem mk_sub (v : Value) (j : Nat) (u : Value) (h : (cxC 0).toList[j]? = some u) : (mkC v)[2 + j]? = some u := by
  rw [← Array.getElem?_toList, mk_list, List.getElem?_append_right (by simp)]
  have hj : j < (cxC 0).toList.length := (List.getElem?_eq_some_iff.1 h).1
  rw [List.getElem?_append_left (by simpa using hj)]
  simpa using h
theorem addM (g o j : Nat) : (⟨g, o, none⟩ : Addr).add j = ⟨g, o + j, none⟩ := by
  unfold Addr.add
  split
  · subst_vars; rfl
  · rfl
theorem ld_mkcx {w : World} {g : Nat} {v : Value} (h : Blk w g 124 (mkC v)) : (loadVar 54 ⟨g, 2, none⟩).run Tryz.prog w = .ok (.agg (cxC 0)) w :=
  ld_any (fun j u hu => by rw [addM, h.cell]; exact mk_sub v j u hu) Tryz.underlying54 rfl (cx_sz 0)
theorem ld_mkpo {w : World} {g : Nat} {v : Value} (h : Blk w g 124 (mkC v)) : (loadVar 41 ⟨g, 0, none⟩).run Tryz.prog w = .ok (.agg #[.slice none 0 0, .slice none 0 0]) w :=
  ld_any (fun j u hu => by
    rw [addM, h.cell]
    match j with
    | 0 => simp at hu; subst hu; rfl
    | 1 => simp at hu; subst hu; rfl
    | j + 2 => simp at hu) Tryz.underlying41 rfl (by show _ = some 2; kernel_rfl)
theorem mk_27 (v : Value) : (mkC v)[27]? = some (.int .i64 5) := rfl
theorem mk_28 (v : Value) : (mkC v)[28]? = some v := rfl
theorem mk_set (v u : Value) : (mkC v).setIfInBounds 28 u = mkC u := rfl
attribute [local irreducible] cxC mkC
set_option maxRecDepth 100000 in
set_option maxHeartbeats 4000000 in
theorem vexcl0 (w : World) : Calls Tryz.prog 94 #[.agg #[.slice none 0 0, .slice none 0 0], .agg (cxC 0), .int .i64 1300] w fun e w' => e = .returned (.bool false) ∧ Below w.heap.size w w' := by
  have hb0 : Below w.heap.size w ((w.alloc (.cells #[.slice none 0 0, .slice none 0 0] 41)).alloc (.cells ((cxC 0).setIfInBounds 24 (.int .i64 1300)) 54)) := ((Below.refl _ _).alloc (Nat.le_refl _) _).alloc (by simp) _
  have x0 : Blk ((w.alloc (.cells #[.slice none 0 0, .slice none 0 0] 41)).alloc (.cells (cxC 0) 54)) (w.heap.size + 1) 54 (cxC 0) := by
    have := Blk.new (w.alloc (.cells #[.slice none 0 0, .slice none 0 0] 41)) (cxC 0) 54
    simpa using this
  have x1 : Blk ((w.alloc (.cells #[.slice none 0 0, .slice none 0 0] 41)).alloc (.cells ((cxC 0).setIfInBounds 24 (.int .i64 1300)) 54)) (w.heap.size + 1) 54 (cxC 1300) := by
    have := Blk.new (w.alloc (.cells #[.slice none 0 0, .slice none 0 0] 41)) ((cxC 0).setIfInBounds 24 (.int .i64 1300)) 54
    rw [cx_set] at this ⊢
    simpa using this
  have c24 := (x0.cell 24).trans (cx_at 0)
  have f24 := x0.free 24
  have X1 := Lib.hid x1
  have HB1 := Lib.hid hb0
  clear x0 x1 hb0
  go_enter Tryz.func94, Tryz.ntmps94
  go_wp2_with ((with_reducible refine load_blk ?_ 54 (.tmp 4) ?_ X1.out ?_ _ Tryz.underlying54 ?_ ?_ ?_); (iterate 4 rfl); exact cx_sz _)
  refine (vFirst0 5 1300 _).mono ?_
  rintro e w1 ⟨rfl, hb1⟩
  have HB2 := Lib.hid (below_then HB1.out hb1)
  clear hb1
  go_wp2_with fail
  go_ret
  exact ⟨rfl, HB2.out⟩
/-- What add and syscall leave. -/
def AddPost (g : Nat) (n : Nat) (w : World) (e : Ending) (w' : World) : Prop :=
  ∃ (v : Value) (x : Rm), e = .returned (.tuple #[]) ∧ Blk w' g 124 (mkC v) ∧ OwnE ER w' w.heap.size v [x] ∧ x.r.ty = 1300 ∧ x.r.ti = 5 ∧ x.r.ps.length = n ∧ w.grownBy w' (some g)
attribute [-go_sem] loadVar
attribute [local go_sem] lv3 lvRs lvRu
set_option maxRecDepth 100000 in
set_option maxHeartbeats 8000000 in
theorem vadd (g : Nat) (A : Option Addr) (n c : Nat) (ps : List Pr) (hn : n = ps.length) (hl : n ≤ 1000) (w : World) (hg : Blk w g 124 (mkC (.slice none 0 0))) (hA : AtE EP w w.heap.size A ps) :
    Calls Tryz.prog 46 #[.pointer (some ⟨g, 0, none⟩), .int .i64 1300, .slice A n c] w (AddPost g n w) := by
  have HG := Lib.hid hg
  have HA := Lib.hid hA
  have HN := Lib.hid hn
  have hlt := hg.lt
  clear hg hA hn
  go_enter Tryz.func46, Tryz.ntmps46
  go_upto_region 0 with (fail)
  go_cut [16] (fun v wx => v = .bool true ∧ Below w.heap.size w wx)
  case first =>
    refine wp_region_held_drew (S := (fun w' => Blk w' g 124 (mkC (.slice none 0 0)))) (by kernel_rfl) (Blk.below HG.out (Below.refl _ _).drew) (fun hHeld => ?_)
    refine wpAnyH_take (i := 0) (v := ?_) rfl (by kernel_rfl) (by kernel_rfl) (by kernel_rfl) (fun _ _ _ h => h) (Or.inl ⟨by kernel_rfl, ?_⟩) hHeld ?_
    rotate_left
    · intro w hSw
      go_simp
      first | (with_reducible rfl) | (rw [if_neg (by first | omega | (simp; omega))])
    refine wpAnyH_take (i := 1) (v := ?_) rfl (by kernel_rfl) (by kernel_rfl) (by kernel_rfl) (fun _ _ _ h => h) (Or.inl ⟨by kernel_rfl, ?_⟩) hHeld ?_
    rotate_left
    · intro w hSw
      go_simp
      first | (with_reducible rfl) | (rw [if_neg (by first | omega | (simp; omega))])
    refine wpAnyH_take (i := 2) (v := ?_) rfl (by kernel_rfl) (by kernel_rfl) (by kernel_rfl) (fun _ _ _ h => h) (Or.inl ⟨by kernel_rfl, ?_⟩) hHeld ?_
    rotate_left
    · intro w hSw
      go_simp
      first | (with_reducible rfl) | (rw [if_neg (by first | omega | (simp; omega))])
    refine wpAnyH_take (i := 3) (v := ?_) rfl (by kernel_rfl) (by kernel_rfl) (by kernel_rfl) (fun _ _ _ h => h) (Or.inl ⟨by kernel_rfl, ?_⟩) hHeld ?_
    rotate_left
    · intro w hSw
      have hl := ld_mkpo hSw
      go_simp
      first | (with_reducible rfl) | (rw [if_neg (by first | omega | (simp; omega))])
    refine wpAnyH_take (i := 4) (v := ?_) rfl (by kernel_rfl) (by kernel_rfl) (by kernel_rfl) (fun _ _ _ h => h) (Or.inl ⟨by kernel_rfl, ?_⟩) hHeld ?_
    rotate_left
    · intro w hSw
      go_simp
      first | (with_reducible rfl) | (rw [if_neg (by first | omega | (simp; omega))])
    refine wpAnyH_take (i := 5) (v := ?_) rfl (by kernel_rfl) (by kernel_rfl) (by kernel_rfl) (fun _ _ _ h => h) (Or.inl ⟨by kernel_rfl, ?_⟩) hHeld ?_
    rotate_left
    · intro w hSw
      go_simp
      first | (with_reducible rfl) | (rw [if_neg (by first | omega | (simp; omega))])
    refine wpAnyH_take (i := 6) (v := ?_) rfl (by kernel_rfl) (by kernel_rfl) (by kernel_rfl) (fun _ _ _ h => h) (Or.inl ⟨by kernel_rfl, ?_⟩) hHeld ?_
    rotate_left
    · intro w hSw
      go_simp
      first | (with_reducible rfl) | (rw [if_neg (by first | omega | (simp; omega))])
    refine wpAnyH_take (i := 7) (v := ?_) rfl (by kernel_rfl) (by kernel_rfl) (by kernel_rfl) (fun _ _ _ h => h) (Or.inl ⟨by kernel_rfl, ?_⟩) hHeld ?_
    rotate_left
    · intro w hSw
      have hl := ld_mkcx hSw
      go_simp
      first | (with_reducible rfl) | (rw [if_neg (by first | omega | (simp; omega))])
    refine wpAnyH_take (i := 8) (v := ?_) rfl (by kernel_rfl) (by kernel_rfl) (by kernel_rfl) (fun _ _ _ h => h) (Or.inl ⟨by kernel_rfl, ?_⟩) hHeld ?_
    rotate_left
    · intro w hSw
      go_simp
      first | (with_reducible rfl) | (rw [if_neg (by first | omega | (simp; omega))])
    refine wpAnyH_ready (rs := [9]) (by kernel_rfl) (by simp) ?_
    refine AllReadyH.cons rfl (fun K hK => ?_) AllReadyH.nil
    go_simp
    go_at_call 94
    refine (vexcl0 _).mono ?_
    rintro e w1 ⟨rfl, hb1⟩
    have HB1 := Lib.hid (below_then (Below.refl w.heap.size w).drew hb1)
    have hh := Blk.below hHeld hb1
    clear hb1
    go_simp
    refine hK.out _ _ hh (fun hHeld => ?_)
    clear hK K
    clear hh
    refine wpAnyH_take (i := 10) (v := ?_) rfl (by kernel_rfl) (by kernel_rfl) (by kernel_rfl) (fun _ _ _ h => h) (Or.inl ⟨by kernel_rfl, ?_⟩) hHeld ?_
    rotate_left
    · intro w hSw
      go_simp
      first | (with_reducible rfl) | (rw [if_neg (by first | omega | (simp; omega))])
    refine wpAnyH_done (by kernel_rfl) ?_ _
    go_wp2_with fail
    go_meet
    exact ⟨rfl, HB1.out⟩
  case rest =>
  obtain ⟨rfl, hb0⟩ := hcut
  have HG1 := Lib.hid (Blk.below HG.out hb0)
  have HA1 := Lib.hid (HA.out.below hb0)
  have HB0 := Lib.hid hb0
  have hlt1 : g < wc.heap.size := HG1.out.lt
  clear hb0 HG HA
  go_wp2_with fail
  have HB1 := Lib.hid HB0.out.drew
  have HG2 := Lib.hid (Blk.below HG1.out (Below.refl wc.heap.size wc).drew)
  have HA2 := Lib.hid (HA1.out.below (Below.refl wc.heap.size wc).drew)
  refine wp_region_held_drew (S := (fun w' => ∃ v, Blk w' g 124 (mkC v))) (by kernel_rfl) ⟨_, HG2.out⟩ (fun hHeld => ?_)
  clear HG1 HA1 HB0
  generalize wc.drew = wd at *
  refine wpAnyH_take (i := 0) (v := ?_) rfl (by kernel_rfl) (by kernel_rfl) (by kernel_rfl) (fun _ _ _ h => h) (Or.inl ⟨by kernel_rfl, ?_⟩) hHeld ?_
  rotate_left
  · intro w hSw
    go_simp
    first | (with_reducible rfl) | (rw [if_neg (by first | omega | (simp; omega))])
  refine wpAnyH_take (i := 1) (v := ?_) rfl (by kernel_rfl) (by kernel_rfl) (by kernel_rfl) (fun _ _ _ h => h) (Or.inl ⟨by kernel_rfl, ?_⟩) hHeld ?_
  rotate_left
  · intro w hSw
    go_simp
    first | (with_reducible rfl) | (rw [if_neg (by first | omega | (simp; omega))])
  refine wpAnyH_take (i := 2) (v := ?_) rfl (by kernel_rfl) (by kernel_rfl) (by kernel_rfl) (fun _ _ _ h => h) (Or.inl ⟨by kernel_rfl, ?_⟩) hHeld ?_
  rotate_left
  · intro w hSw
    go_simp
    first | (with_reducible rfl) | (rw [if_neg (by first | omega | (simp; omega))])
  refine wpAnyH_take (i := 3) (v := ?_) rfl (by kernel_rfl) (by kernel_rfl) (by kernel_rfl) (fun _ _ _ h => h) (Or.inl ⟨by kernel_rfl, ?_⟩) hHeld ?_
  rotate_left
  · intro w hSw
    go_simp
    first | (with_reducible rfl) | (rw [if_neg (by first | omega | (simp; omega))])
  refine wpAnyH_take (i := 5) (v := ?_) rfl (by kernel_rfl) (by kernel_rfl) (by kernel_rfl) (fun _ _ _ h => h) (Or.inl ⟨by kernel_rfl, ?_⟩) hHeld ?_
  rotate_left
  · intro w hSw
    go_simp
    first | (with_reducible rfl) | (rw [if_neg (by first | omega | (simp; omega))])
  refine wpAnyH_take (i := 6) (v := ?_) rfl (by kernel_rfl) (by kernel_rfl) (by kernel_rfl) (fun _ _ _ h => h) (Or.inl ⟨by kernel_rfl, ?_⟩) hHeld ?_
  rotate_left
  · intro w hSw
    go_simp
    first | (with_reducible rfl) | (rw [if_neg (by first | omega | (simp; omega))])
  refine wpAnyH_take (i := 7) (v := ?_) rfl (by kernel_rfl) (by kernel_rfl) (by kernel_rfl) (fun _ _ _ h => h) (Or.inl ⟨by kernel_rfl, ?_⟩) hHeld ?_
  rotate_left
  · intro w hSw
    go_simp
    first | (with_reducible rfl) | (rw [if_neg (by first | omega | (simp; omega))])
  refine wpAnyH_take (i := 8) (v := ?_) rfl (by kernel_rfl) (by kernel_rfl) (by kernel_rfl) (fun _ _ _ h => h) (Or.inl ⟨by kernel_rfl, ?_⟩) hHeld ?_
  rotate_left
  · intro w hSw
    go_simp
    first | (with_reducible rfl) | (rw [if_neg (by first | omega | (simp; omega))])
  refine wpAnyH_take (i := 9) (v := ?_) rfl (by kernel_rfl) (by kernel_rfl) (by kernel_rfl) (fun _ _ _ h => h) (Or.inl ⟨by kernel_rfl, ?_⟩) hHeld ?_
  rotate_left
  · intro w hSw
    obtain ⟨vv, hb⟩ := hSw
    have k27 := (hb.cell 27).trans (mk_27 vv)
    go_simp
    first | (with_reducible rfl) | (rw [if_neg (by first | omega | (simp; omega))])
  refine wpAnyH_take (i := 10) (v := ?_) rfl (by kernel_rfl) (by kernel_rfl) (by kernel_rfl) (fun _ _ _ h => h) (Or.inl ⟨by kernel_rfl, ?_⟩) hHeld ?_
  rotate_left
  · intro w hSw
    go_simp
    first | (with_reducible rfl) | (rw [if_neg (by first | omega | (simp; omega))])
  have HWD := Lib.hid (show w.heap.size ≤ wd.heap.size from HB1.out.size)
  refine wpAnyH_ready (rs := [4, 11]) (by kernel_rfl) (by simp) ?_
  refine (AllReadyH.cons rfl (fun K hK => ?_) (AllReadyH.cons rfl (fun K hK => ?_) AllReadyH.nil))
  · have k28 := (HG2.out.cell 28).trans (mk_28 _)
    go_simp
    refine hK.out _ _ hHeld (fun hHeld => ?_)
    clear hK K k28
    refine wpAnyH_ready (rs := [11]) (by kernel_rfl) (by simp) ?_
    refine (AllReadyH.cons rfl (fun K hK => ?_) AllReadyH.nil)
    go_simp
    go_at_call 66
    refine (vclone A n c ps HN.out hl _ HA2.out).mono ?_
    rintro e w1 ⟨A', c', rfl, hoc, hb1⟩
    have HG2 := Lib.hid (Blk.below HG2.out hb1)
    have HB1 := Lib.hid (below_then HB1.out hb1)
    have HOC := Lib.hid (hoc.low (base := w.heap.size) (by have := HB1.out.size; first | exact HWD.out | omega))
    clear hoc hb1
    go_simp
    refine hK.out _ _ ⟨_, HG2.out⟩ (fun hHeld => ?_)
    clear hK K
    refine wpAnyH_take (i := 12) (v := ?_) rfl (by kernel_rfl) (by kernel_rfl) (by kernel_rfl) (fun _ _ _ h => h) (Or.inl ⟨by kernel_rfl, ?_⟩) hHeld ?_
    rotate_left
    · intro w hSw
      go_simp
      first | (with_reducible rfl) | (rw [if_neg (by first | omega | (simp; omega))])
    refine wpAnyH_ready (rs := [13]) (by kernel_rfl) (by simp) ?_
    refine (AllReadyH.cons rfl (fun K hK => ?_) AllReadyH.nil)
    have HG2 := Lib.hid (HG2.out.alloc (.cells #[.int .i64 1300, .int .i64 5, .int .i64 0, .slice A' n c'] 77))
    have HB1 := Lib.hid (HB1.out.alloc HB1.out.size (.cells #[.int .i64 1300, .int .i64 5, .int .i64 0, .slice A' n c'] 77))
    have RW := Lib.hid (row_newE ER w1 #[.int .i64 1300, .int .i64 5, .int .i64 0, .slice A' n c'] 77 ⟨⟨1300, 5, 0, ps⟩, A', c'⟩ (by rw [HN.out]; rfl) (Nat.lt_succ_self w1.heap.size))
    go_simp
    refine hK.out _ _ ⟨_, HG2.out⟩ (fun hHeld => ?_)
    clear hK K
    refine wpAnyH_ready (rs := [14]) (by kernel_rfl) (by simp) ?_
    refine AllReadyH.cons rfl (fun K hK => ?_) AllReadyH.nil
    refine step_append_el ER (by rfl) (.tmp 21) (.tmp 30) (by rfl) w.heap.size (.slice none 0 0) [] (by rfl) (OwnE.nil _ _) (w1.heap.size + 1) (some ⟨w1.heap.size, 0, none⟩) 1 1 [⟨⟨1300, 5, 0, ps⟩, A', c'⟩] (by rfl) (by rfl) RW.out (by simp) (by exact HB1.out.size) ?_
    intro v6 w6 ho6 hg6 hat6
    have hb6 : Below (w1.alloc (.cells #[.int .i64 1300, .int .i64 5, .int .i64 0, .slice A' n c'] 77)).heap.size (w1.alloc (.cells #[.int .i64 1300, .int .i64 5, .int .i64 0, .slice A' n c'] 77)) w6 := ⟨hg6.os, hg6.tape, hg6.output, hg6.size, fun i hi => hg6.block i hi (fun e => by cases e)⟩
    have HG6 := Lib.hid (Blk.below HG2.out hb6)
    have HB6 := Lib.hid (below_then HB1.out hb6)
    have HO6 := Lib.hid ho6
    refine hK.out _ _ ⟨_, HG6.out⟩ (fun hHeld => ?_)
    clear hK K hb6 hg6 hat6
    refine wpAnyH_take (i := 15) (v := ?_) rfl (by kernel_rfl) (by kernel_rfl) (by kernel_rfl) (fun _ _ _ h => h) (Or.inl ⟨by kernel_rfl, ?_⟩) hHeld ?_
    rotate_left
    · intro w hSw
      go_simp
      first | (with_reducible rfl) | (rw [if_neg (by first | omega | (simp; omega))])
    refine wpAnyH_take (i := 16) (v := ?_) rfl (by kernel_rfl) (by kernel_rfl) (by kernel_rfl) (fun _ _ _ h => h) (Or.inl ⟨by kernel_rfl, ?_⟩) hHeld ?_
    rotate_left
    · intro w hSw
      go_simp
      first | (with_reducible rfl) | (rw [if_neg (by first | omega | (simp; omega))])
    obtain ⟨g7, c7, e7⟩ := Joins.ownsRow_form ho6 (by simp)
    subst e7
    have k28 := (HG6.out.cell 28).trans (mk_28 _)
    have f28 := HG6.out.free 28
    have hg7 := Blk.put HG6.out 28 (.slice (some ⟨g7, 0, none⟩) 1 c7)
    rw [mk_set] at hg7
    have HG7 := Lib.hid hg7
    clear hg7 ho6
    refine wpAnyH_ready (rs := [17]) (by kernel_rfl) (by simp) ?_
    refine AllReadyH.cons rfl (fun K hK => ?_) AllReadyH.nil
    go_simp
    refine hK.out _ _ ⟨_, HG7.out⟩ (fun hHeld => ?_)
    clear hK K
    refine wpAnyH_done (by kernel_rfl) ?_ _
    clear k28 f28
    go_wp2_with fail
    go_end0
    exact ⟨_, ⟨⟨1300, 5, 0, ps⟩, A', c'⟩, rfl, HG7.out, HO6.out.farCell (fun e => by have := HO6.out.ge _ e; omega) _, rfl, rfl, HN.out.symm, only_setCell ⟨HB6.out.os, HB6.out.tape, HB6.out.output, HB6.out.size, fun i hi _ => HB6.out.block i hi⟩ (.inl rfl) _⟩
  · go_simp
    go_at_call 66
    refine (vclone A n c ps HN.out hl _ HA2.out).mono ?_
    rintro e w1 ⟨A', c', rfl, hoc, hb1⟩
    have HG2 := Lib.hid (Blk.below HG2.out hb1)
    have HB1 := Lib.hid (below_then HB1.out hb1)
    have HOC := Lib.hid (hoc.low (base := w.heap.size) (by have := HB1.out.size; first | exact HWD.out | omega))
    clear hoc hb1
    go_simp
    refine hK.out _ _ ⟨_, HG2.out⟩ (fun hHeld => ?_)
    clear hK K
    refine wpAnyH_take (i := 12) (v := ?_) rfl (by kernel_rfl) (by kernel_rfl) (by kernel_rfl) (fun _ _ _ h => h) (Or.inl ⟨by kernel_rfl, ?_⟩) hHeld ?_
    rotate_left
    · intro w hSw
      go_simp
      first | (with_reducible rfl) | (rw [if_neg (by first | omega | (simp; omega))])
    refine wpAnyH_ready (rs := [4, 13]) (by kernel_rfl) (by simp) ?_
    refine (AllReadyH.cons rfl (fun K hK => ?_) (AllReadyH.cons rfl (fun K hK => ?_) AllReadyH.nil))
    · have k28 := (HG2.out.cell 28).trans (mk_28 _)
      go_simp
      refine hK.out _ _ hHeld (fun hHeld => ?_)
      clear hK K k28
      refine wpAnyH_ready (rs := [13]) (by kernel_rfl) (by simp) ?_
      refine (AllReadyH.cons rfl (fun K hK => ?_) AllReadyH.nil)
      have HG2 := Lib.hid (HG2.out.alloc (.cells #[.int .i64 1300, .int .i64 5, .int .i64 0, .slice A' n c'] 77))
      have HB1 := Lib.hid (HB1.out.alloc HB1.out.size (.cells #[.int .i64 1300, .int .i64 5, .int .i64 0, .slice A' n c'] 77))
      have RW := Lib.hid (row_newE ER w1 #[.int .i64 1300, .int .i64 5, .int .i64 0, .slice A' n c'] 77 ⟨⟨1300, 5, 0, ps⟩, A', c'⟩ (by rw [HN.out]; rfl) (Nat.lt_succ_self w1.heap.size))
      go_simp
      refine hK.out _ _ ⟨_, HG2.out⟩ (fun hHeld => ?_)
      clear hK K
      refine wpAnyH_ready (rs := [14]) (by kernel_rfl) (by simp) ?_
      refine AllReadyH.cons rfl (fun K hK => ?_) AllReadyH.nil
      refine step_append_el ER (by rfl) (.tmp 21) (.tmp 30) (by rfl) w.heap.size (.slice none 0 0) [] (by rfl) (OwnE.nil _ _) (w1.heap.size + 1) (some ⟨w1.heap.size, 0, none⟩) 1 1 [⟨⟨1300, 5, 0, ps⟩, A', c'⟩] (by rfl) (by rfl) RW.out (by simp) (by exact HB1.out.size) ?_
      intro v6 w6 ho6 hg6 hat6
      have hb6 : Below (w1.alloc (.cells #[.int .i64 1300, .int .i64 5, .int .i64 0, .slice A' n c'] 77)).heap.size (w1.alloc (.cells #[.int .i64 1300, .int .i64 5, .int .i64 0, .slice A' n c'] 77)) w6 := ⟨hg6.os, hg6.tape, hg6.output, hg6.size, fun i hi => hg6.block i hi (fun e => by cases e)⟩
      have HG6 := Lib.hid (Blk.below HG2.out hb6)
      have HB6 := Lib.hid (below_then HB1.out hb6)
      have HO6 := Lib.hid ho6
      refine hK.out _ _ ⟨_, HG6.out⟩ (fun hHeld => ?_)
      clear hK K hb6 hg6 hat6
      refine wpAnyH_take (i := 15) (v := ?_) rfl (by kernel_rfl) (by kernel_rfl) (by kernel_rfl) (fun _ _ _ h => h) (Or.inl ⟨by kernel_rfl, ?_⟩) hHeld ?_
      rotate_left
      · intro w hSw
        go_simp
        first | (with_reducible rfl) | (rw [if_neg (by first | omega | (simp; omega))])
      refine wpAnyH_take (i := 16) (v := ?_) rfl (by kernel_rfl) (by kernel_rfl) (by kernel_rfl) (fun _ _ _ h => h) (Or.inl ⟨by kernel_rfl, ?_⟩) hHeld ?_
      rotate_left
      · intro w hSw
        go_simp
        first | (with_reducible rfl) | (rw [if_neg (by first | omega | (simp; omega))])
      obtain ⟨g7, c7, e7⟩ := Joins.ownsRow_form ho6 (by simp)
      subst e7
      have k28 := (HG6.out.cell 28).trans (mk_28 _)
      have f28 := HG6.out.free 28
      have hg7 := Blk.put HG6.out 28 (.slice (some ⟨g7, 0, none⟩) 1 c7)
      rw [mk_set] at hg7
      have HG7 := Lib.hid hg7
      clear hg7 ho6
      refine wpAnyH_ready (rs := [17]) (by kernel_rfl) (by simp) ?_
      refine AllReadyH.cons rfl (fun K hK => ?_) AllReadyH.nil
      go_simp
      refine hK.out _ _ ⟨_, HG7.out⟩ (fun hHeld => ?_)
      clear hK K
      refine wpAnyH_done (by kernel_rfl) ?_ _
      clear k28 f28
      go_wp2_with fail
      go_end0
      exact ⟨_, ⟨⟨1300, 5, 0, ps⟩, A', c'⟩, rfl, HG7.out, HO6.out.farCell (fun e => by have := HO6.out.ge _ e; omega) _, rfl, rfl, HN.out.symm, only_setCell ⟨HB6.out.os, HB6.out.tape, HB6.out.output, HB6.out.size, fun i hi _ => HB6.out.block i hi⟩ (.inl rfl) _⟩
    · have HG2 := Lib.hid (HG2.out.alloc (.cells #[.int .i64 1300, .int .i64 5, .int .i64 0, .slice A' n c'] 77))
      have HB1 := Lib.hid (HB1.out.alloc HB1.out.size (.cells #[.int .i64 1300, .int .i64 5, .int .i64 0, .slice A' n c'] 77))
      have RW := Lib.hid (row_newE ER w1 #[.int .i64 1300, .int .i64 5, .int .i64 0, .slice A' n c'] 77 ⟨⟨1300, 5, 0, ps⟩, A', c'⟩ (by rw [HN.out]; rfl) (Nat.lt_succ_self w1.heap.size))
      go_simp
      refine hK.out _ _ ⟨_, HG2.out⟩ (fun hHeld => ?_)
      clear hK K
      refine wpAnyH_ready (rs := [4]) (by kernel_rfl) (by simp) ?_
      refine (AllReadyH.cons rfl (fun K hK => ?_) AllReadyH.nil)
      have k28 := (HG2.out.cell 28).trans (mk_28 _)
      go_simp
      refine hK.out _ _ hHeld (fun hHeld => ?_)
      clear hK K k28
      refine wpAnyH_ready (rs := [14]) (by kernel_rfl) (by simp) ?_
      refine AllReadyH.cons rfl (fun K hK => ?_) AllReadyH.nil
      refine step_append_el ER (by rfl) (.tmp 21) (.tmp 30) (by rfl) w.heap.size (.slice none 0 0) [] (by rfl) (OwnE.nil _ _) (w1.heap.size + 1) (some ⟨w1.heap.size, 0, none⟩) 1 1 [⟨⟨1300, 5, 0, ps⟩, A', c'⟩] (by rfl) (by rfl) RW.out (by simp) (by exact HB1.out.size) ?_
      intro v6 w6 ho6 hg6 hat6
      have hb6 : Below (w1.alloc (.cells #[.int .i64 1300, .int .i64 5, .int .i64 0, .slice A' n c'] 77)).heap.size (w1.alloc (.cells #[.int .i64 1300, .int .i64 5, .int .i64 0, .slice A' n c'] 77)) w6 := ⟨hg6.os, hg6.tape, hg6.output, hg6.size, fun i hi => hg6.block i hi (fun e => by cases e)⟩
      have HG6 := Lib.hid (Blk.below HG2.out hb6)
      have HB6 := Lib.hid (below_then HB1.out hb6)
      have HO6 := Lib.hid ho6
      refine hK.out _ _ ⟨_, HG6.out⟩ (fun hHeld => ?_)
      clear hK K hb6 hg6 hat6
      refine wpAnyH_take (i := 15) (v := ?_) rfl (by kernel_rfl) (by kernel_rfl) (by kernel_rfl) (fun _ _ _ h => h) (Or.inl ⟨by kernel_rfl, ?_⟩) hHeld ?_
      rotate_left
      · intro w hSw
        go_simp
        first | (with_reducible rfl) | (rw [if_neg (by first | omega | (simp; omega))])
      refine wpAnyH_take (i := 16) (v := ?_) rfl (by kernel_rfl) (by kernel_rfl) (by kernel_rfl) (fun _ _ _ h => h) (Or.inl ⟨by kernel_rfl, ?_⟩) hHeld ?_
      rotate_left
      · intro w hSw
        go_simp
        first | (with_reducible rfl) | (rw [if_neg (by first | omega | (simp; omega))])
      obtain ⟨g7, c7, e7⟩ := Joins.ownsRow_form ho6 (by simp)
      subst e7
      have k28 := (HG6.out.cell 28).trans (mk_28 _)
      have f28 := HG6.out.free 28
      have hg7 := Blk.put HG6.out 28 (.slice (some ⟨g7, 0, none⟩) 1 c7)
      rw [mk_set] at hg7
      have HG7 := Lib.hid hg7
      clear hg7 ho6
      refine wpAnyH_ready (rs := [17]) (by kernel_rfl) (by simp) ?_
      refine AllReadyH.cons rfl (fun K hK => ?_) AllReadyH.nil
      go_simp
      refine hK.out _ _ ⟨_, HG7.out⟩ (fun hHeld => ?_)
      clear hK K
      refine wpAnyH_done (by kernel_rfl) ?_ _
      clear k28 f28
      go_wp2_with fail
      go_end0
      exact ⟨_, ⟨⟨1300, 5, 0, ps⟩, A', c'⟩, rfl, HG7.out, HO6.out.farCell (fun e => by have := HO6.out.ge _ e; omega) _, rfl, rfl, HN.out.symm, only_setCell ⟨HB6.out.os, HB6.out.tape, HB6.out.output, HB6.out.size, fun i hi _ => HB6.out.block i hi⟩ (.inl rfl) _⟩
end Go.Proofs.YtollifnnpihfdaaGreatDoor
/- num, text, textOrNull of package emit, and num, txt, some of the reference, for any text. -/
namespace Go.Proofs.YtollifnnpihfdaaGreatDoor
open Go.RowKit
def nuP (s : ByteArray) (n : Int) : Pr := ⟨s, 1, n, ⟨#[]⟩⟩
def txP (s t : ByteArray) : Pr := if 640 < t.size then ⟨s, 3, 0, ⟨#[]⟩⟩ else ⟨s, 2, 0, t⟩
def soP (s t : ByteArray) : Pr := if t.size = 0 then ⟨s, 3, 0, ⟨#[]⟩⟩ else txP s t
theorem txP_long {s t : ByteArray} (h : 640 < t.size) : txP s t = ⟨s, 3, 0, ⟨#[]⟩⟩ := if_pos h
theorem txP_short {s t : ByteArray} (h : ¬ 640 < t.size) : txP s t = ⟨s, 2, 0, t⟩ := if_neg h
theorem nonempty_text {t : ByteArray} (h : ¬ t.size = 0) : t.toList.isEmpty = false := by
  cases hq : t.toList.isEmpty with
  | false => rfl
  | true =>
    have e := congrArg List.length (List.isEmpty_iff.1 hq)
    rw [ByteArray.toList_eq, Array.length_toList] at e
    exact absurd e h
theorem vnumA (s : ByteArray) (n : Int) (w : World) : Calls Tryz.prog 48 #[.string s, .int .i64 n] w fun e w' => e = .returned (prV (nuP s n)) ∧ Below w.heap.size w w' := vnumE s n w
theorem vtextA (s t : ByteArray) (w : World) : Calls Tryz.prog 47 #[.string s, .string t] w fun e w' => e = .returned (prV (txP s t)) ∧ Below w.heap.size w w' := by
  by_cases h : 640 < t.size
  · rw [txP_long h]
    have h1 : (640 : Int) < (t.size : Int) := by omega
    go_enter Tryz.func47, Tryz.ntmps47
    go_wp2_with fail
    refine bodyPost_ret (pr_ret4 (fn := Tryz.f47) rfl _ _ w.heap.size ⟨s, 3, 0, ⟨#[]⟩⟩ rfl (Blk.new w _ _)) rfl ?_
    exact ⟨rfl, (Below.refl _ _).alloc (Nat.le_refl _) _⟩
  · rw [txP_short h]
    exact vtextE s t (by omega) w
theorem rnumA (s : ByteArray) (n : Int) (w : World) : Calls Tryz.prog 55 #[.string s, .int .i64 n] w fun e w' => e = .returned (prV (nuP s n)) ∧ Below w.heap.size w w' := by
  go_enter Tryz.func55, Tryz.ntmps55
  go_wp2_with fail
  refine bodyPost_ret (pr_ret4 (fn := Tryz.f55) rfl _ _ w.heap.size ⟨s, 1, n, ⟨#[]⟩⟩ rfl (Blk.new w _ _)) rfl ?_
  exact ⟨rfl, (Below.refl _ _).alloc (Nat.le_refl _) _⟩
theorem rtxtA (s t : ByteArray) (w : World) : Calls Tryz.prog 54 #[.string s, .string t] w fun e w' => e = .returned (prV (txP s t)) ∧ Below w.heap.size w w' := by
  by_cases h : 640 < t.size
  · rw [txP_long h]
    have h1 : (640 : Int) < (t.size : Int) := by omega
    go_enter Tryz.func54, Tryz.ntmps54
    go_wp2_with fail
    refine bodyPost_ret (pr_ret4 (fn := Tryz.f54) rfl _ _ w.heap.size ⟨s, 3, 0, ⟨#[]⟩⟩ rfl (Blk.new w _ _)) rfl ?_
    exact ⟨rfl, (Below.refl _ _).alloc (Nat.le_refl _) _⟩
  · rw [txP_short h]
    have h1 : ¬ (640 : Int) < (t.size : Int) := by omega
    go_enter Tryz.func54, Tryz.ntmps54
    go_wp2_with fail
    refine bodyPost_ret (pr_ret4 (fn := Tryz.f54) rfl _ _ w.heap.size ⟨s, 2, 0, t⟩ rfl (Blk.new w _ _)) rfl ?_
    exact ⟨rfl, (Below.refl _ _).alloc (Nat.le_refl _) _⟩
theorem vsomeA (s t : ByteArray) (w : World) : Calls Tryz.prog 50 #[.string s, .string t] w fun e w' => e = .returned (prV (soP s t)) ∧ Below w.heap.size w w' := by
  unfold soP
  by_cases h : t.size = 0
  · obtain rfl : t = ⟨#[]⟩ := by
      cases t with | mk d => cases d with | mk l => cases l with | nil => rfl | cons a l => simp [ByteArray.size] at h
    exact vnullE s w
  · rw [if_neg h]
    have h1 := nonempty_text h
    go_enter Tryz.func50, Tryz.ntmps50
    go_wp2_with fail
    refine (vtextA s t _).mono ?_
    rintro e w1 ⟨rfl, hb1⟩
    have HX := Blk.below (Blk.new w #[.string ⟨#[]⟩, .int .i64 0, .int .i64 0, .string ⟨#[]⟩] 79) hb1
    go_wp2_with ((with_reducible refine store_blk ?_ 79 (.tmp 4) (.tmp 11) ?_ HX (prA (txP s t)) ?_ ?_ ?_ ?_ ?_ ?_); (iterate 4 rfl); (exact pr_sz _); rfl; (exact pr_one _))
    refine bodyPost_ret (pr_ret4 (fn := Tryz.f50) rfl _ _ w.heap.size (txP s t) rfl (Blk.row HX _)) rfl ?_
    exact ⟨rfl, below_row (below_then ((Below.refl _ _).alloc (Nat.le_refl _) _) (by exact hb1)) (Nat.le_refl _) _⟩
theorem rsomeA (s t : ByteArray) (w : World) : Calls Tryz.prog 56 #[.string s, .string t] w fun e w' => e = .returned (prV (soP s t)) ∧ Below w.heap.size w w' := by
  unfold soP
  by_cases h : t.size = 0
  · obtain rfl : t = ⟨#[]⟩ := by
      cases t with | mk d => cases d with | mk l => cases l with | nil => rfl | cons a l => simp [ByteArray.size] at h
    rw [if_pos h]
    go_enter Tryz.func56, Tryz.ntmps56
    go_wp2_with fail
    refine bodyPost_ret (pr_ret4 (fn := Tryz.f56) rfl _ _ w.heap.size ⟨s, 3, 0, ⟨#[]⟩⟩ rfl (Blk.new w _ _)) rfl ?_
    exact ⟨rfl, (Below.refl _ _).alloc (Nat.le_refl _) _⟩
  · rw [if_neg h]
    have h1 := nonempty_text h
    go_enter Tryz.func56, Tryz.ntmps56
    go_wp2_with fail
    refine (rtxtA s t _).mono ?_
    rintro e w1 ⟨rfl, hb1⟩
    have HX := Blk.below (Blk.new w #[.string ⟨#[]⟩, .int .i64 0, .int .i64 0, .string ⟨#[]⟩] 79) hb1
    go_wp2_with ((with_reducible refine store_blk ?_ 79 (.tmp 4) (.tmp 11) ?_ HX (prA (txP s t)) ?_ ?_ ?_ ?_ ?_ ?_); (iterate 4 rfl); (exact pr_sz _); rfl; (exact pr_one _))
    refine bodyPost_ret (pr_ret4 (fn := Tryz.f56) rfl _ _ w.heap.size (txP s t) rfl (Blk.row HX _)) rfl ?_
    exact ⟨rfl, below_row (below_then ((Below.refl _ _).alloc (Nat.le_refl _) _) (by exact hb1)) (Nat.le_refl _) _⟩
end Go.Proofs.YtollifnnpihfdaaGreatDoor

/- Texts of one proof, laid together. -/
import Derived.Test.YtollifnnpihfdaaGreatDoorC05
import Derived.Test.YtollifnnpihfdaaGreatDoorC25
/- Config of package emit and of the reference: the record of a change of the configuration. -/
namespace Go.Proofs.YtollifnnpihfdaaGreatDoor
open Go.RowKit
abbrev blC (li ra fa : Int) : Array Value := #[.int .i64 li, .int .i64 ra, .int .i64 fa, .int .i64 0, .int .i64 0, .slice none 0 0, .slice none 0 0, .int .i64 0, .int .i64 0, .int .i64 0, .int .i64 0, .int .i64 0, .int .i64 0, .int .i64 0, .int .i64 0, .bool false, .slice none 0 0]
abbrev cfL (p q : Pr) (li ra fa en : Int) : List Pr := [p, q, ⟨⟨#[108, 105, 109, 105, 116]⟩, 1, li, ⟨#[]⟩⟩, ⟨⟨#[114, 97, 116, 101]⟩, 1, ra, ⟨#[]⟩⟩, ⟨⟨#[102, 97, 105, 108]⟩, 1, fa, ⟨#[]⟩⟩, ⟨⟨#[101, 110, 97, 98, 108, 101, 100]⟩, 1, en, ⟨#[]⟩⟩]
abbrev cfP (p q : Pr) (li ra fa en : Int) : Array Value := #[.string p.nm, .int .i64 p.kd, .int .i64 p.nu, .string p.tx, .string q.nm, .int .i64 q.kd, .int .i64 q.nu, .string q.tx, .string ⟨#[108, 105, 109, 105, 116]⟩, .int .i64 1, .int .i64 li, .string ⟨#[]⟩, .string ⟨#[114, 97, 116, 101]⟩, .int .i64 1, .int .i64 ra, .string ⟨#[]⟩, .string ⟨#[102, 97, 105, 108]⟩, .int .i64 1, .int .i64 fa, .string ⟨#[]⟩, .string ⟨#[101, 110, 97, 98, 108, 101, 100]⟩, .int .i64 1, .int .i64 en, .string ⟨#[]⟩]
abbrev cfQ (p q : Pr) (li ra fa en t : Int) : Rc := ⟨1305, t, 0, cfL p q li ra fa en⟩
def cfR (op s : ByteArray) (li ra fa en t : Int) : Rc := cfQ (txP ⟨#[111, 112]⟩ op) (soP ⟨#[114, 117, 108, 101]⟩ s) li ra fa en t
attribute [local irreducible] checkF watchB callsB firstE checkR cleanB callsOk textR headW maskS quoteS testS anyE permS catW listN actN cellsAc cellsLi keyT fmtR
attribute [-go_sem] loadVar
attribute [local go_sem] lv3
set_option maxRecDepth 100000 in
set_option maxHeartbeats 16000000 in
theorem vconfigQ (op : ByteArray) (r : Rul) (A : Option Addr) (n c : Nat) (s0 s : ByteArray) (k li ra fa en t : Int) (p q : Pr) (hp : ∀ w : World, Calls Tryz.prog 47 #[.string ⟨#[111, 112]⟩, .string op] w fun e w' => e = .returned (prV p) ∧ Below w.heap.size w w') (hq : ∀ w : World, Calls Tryz.prog 50 #[.string ⟨#[114, 117, 108, 101]⟩, .string s] w fun e w' => e = .returned (prV q) ∧ Below w.heap.size w w')
    (hk : (k = 0 ∧ s0 = s) ∨ (k ≠ 0 ∧ s = ⟨#[]⟩)) (w : World) (hf : ∀ W : World, Below w.heap.size w W → Calls Tryz.prog 73 #[rulV r (.slice A n c)] W fun e w' => e = .returned (.tuple #[.string s0, .int .i64 k]) ∧ Below W.heap.size W w') :
    Calls Tryz.prog 29 #[.string op, rulV r (.slice A n c), .agg (blC li ra fa), .int .i64 en, .int .i64 t] w (RetR (cfQ p q li ra fa en t) w) := by
  have HFM := Lib.hid hf
  have HK : ((k != 0) = false ∧ s0 = s) ∨ ((k != 0) = true ∧ s = ⟨#[]⟩) := by
    rcases hk with ⟨h1, h2⟩ | ⟨h1, h2⟩
    · exact .inl ⟨by simp [h1], h2⟩
    · exact .inr ⟨by simp [h1], h2⟩
  have X0 := Lib.hid (show Blk (((w.alloc (.cells (rulC r (.slice A n c)) 90)).alloc (.cells (blC li ra fa) 104)).alloc (.cells zrC 77)) w.heap.size 90 (rulC r (.slice A n c)) from ((Blk.new w (rulC r (.slice A n c)) 90).alloc _).alloc _)
  have X1 : Blk (((w.alloc (.cells (rulC r (.slice A n c)) 90)).alloc (.cells (blC li ra fa) 104)).alloc (.cells zrC 77)) (w.heap.size + 1) 104 (blC li ra fa) := by
    have := (Blk.new (w.alloc (.cells (rulC r (.slice A n c)) 90)) (blC li ra fa) 104).alloc (.cells zrC 77)
    simpa using this
  have X2 : Blk (((w.alloc (.cells (rulC r (.slice A n c)) 90)).alloc (.cells (blC li ra fa) 104)).alloc (.cells zrC 77)) (w.heap.size + 2) 77 zrC := by
    have := Blk.new ((w.alloc (.cells (rulC r (.slice A n c)) 90)).alloc (.cells (blC li ra fa) 104)) zrC 77
    simpa using this
  have hB0 : Below w.heap.size w (((w.alloc (.cells (rulC r (.slice A n c)) 90)).alloc (.cells (blC li ra fa) 104)).alloc (.cells zrC 77)) := (((Below.refl _ _).alloc (Nat.le_refl _) _).alloc (by simp) _).alloc (by simp; omega) _
  have X1 := Lib.hid X1
  have X2 := Lib.hid X2
  have HB := Lib.hid hB0
  clear hB0 hf
  clear hk
  rcases HK with ⟨bk, rfl⟩ | ⟨bk, rfl⟩
  all_goals
    go_enter Tryz.func29, Tryz.ntmps29
    go_wp2_with ((with_reducible refine load_blk ?_ 90 (.tmp 6) ?_ X0.out ?_ _ Tryz.underlying90 ?_ ?_ ?_); (iterate 4 rfl); exact rul_sz _ _)
    refine (HFM.out _ HB.out).mono ?_
    rintro e w1 ⟨rfl, hb1⟩
    have HR := Lib.hid (Blk.below (Blk.below X2.out hb1) (Below.refl _ _).drew)
    have HBn := Lib.hid (below_then HB.out hb1).drew
    have XB := Lib.hid (Blk.below (Blk.below X1.out hb1) (Below.refl _ _).drew)
    clear hb1 X0 X1 X2 HFM HB
    have HB := HBn
    clear HBn
    go_upto_region 4 with (fail)
    refine wp_region_held_drew (S := (fun w' => Blk w' (w.heap.size + 1) 104 (blC li ra fa))) (by kernel_rfl) XB.out (fun hHeld => ?_)
    clear XB
    refine wpAnyH_take (i := 0) (v := ?_) rfl (by kernel_rfl) (by kernel_rfl) (by kernel_rfl) (fun _ _ _ h => h) (Or.inl ⟨by kernel_rfl, ?_⟩) hHeld ?_
    rotate_left
    · intro w hSw
      go_simp
      first | (with_reducible rfl) | (rw [if_neg (by first | omega | (simp; omega))])
    refine wpAnyH_take (i := 1) (v := ?_) rfl (by kernel_rfl) (by kernel_rfl) (by kernel_rfl) (fun _ _ _ h => h) (Or.inl ⟨by kernel_rfl, ?_⟩) hHeld ?_
    rotate_left
    · intro w hSw
      go_simp
      first | (with_reducible rfl) | (rw [if_neg (by first | omega | (simp; omega))])
    refine wpAnyH_take (i := 3) (v := ?_) rfl (by kernel_rfl) (by kernel_rfl) (by kernel_rfl) (fun _ _ _ h => h) (Or.inl ⟨by kernel_rfl, ?_⟩) hHeld ?_
    rotate_left
    · intro w hSw
      go_simp
      first | (with_reducible rfl) | (rw [if_neg (by first | omega | (simp; omega))])
    refine wpAnyH_take (i := 5) (v := ?_) rfl (by kernel_rfl) (by kernel_rfl) (by kernel_rfl) (fun _ _ _ h => h) (Or.inl ⟨by kernel_rfl, ?_⟩) hHeld ?_
    rotate_left
    · intro w hSw
      go_simp
      first | (with_reducible rfl) | (rw [if_neg (by first | omega | (simp; omega))])
    refine wpAnyH_take (i := 6) (v := ?_) rfl (by kernel_rfl) (by kernel_rfl) (by kernel_rfl) (fun _ _ _ h => h) (Or.inl ⟨by kernel_rfl, ?_⟩) hHeld ?_
    rotate_left
    · intro w hSw
      have kk := hSw.cell 0
      go_simp
      first | (with_reducible rfl) | (rw [if_neg (by first | omega | (simp; omega))])
    refine wpAnyH_take (i := 8) (v := ?_) rfl (by kernel_rfl) (by kernel_rfl) (by kernel_rfl) (fun _ _ _ h => h) (Or.inl ⟨by kernel_rfl, ?_⟩) hHeld ?_
    rotate_left
    · intro w hSw
      go_simp
      first | (with_reducible rfl) | (rw [if_neg (by first | omega | (simp; omega))])
    refine wpAnyH_take (i := 9) (v := ?_) rfl (by kernel_rfl) (by kernel_rfl) (by kernel_rfl) (fun _ _ _ h => h) (Or.inl ⟨by kernel_rfl, ?_⟩) hHeld ?_
    rotate_left
    · intro w hSw
      have kk := hSw.cell 1
      go_simp
      first | (with_reducible rfl) | (rw [if_neg (by first | omega | (simp; omega))])
    refine wpAnyH_take (i := 11) (v := ?_) rfl (by kernel_rfl) (by kernel_rfl) (by kernel_rfl) (fun _ _ _ h => h) (Or.inl ⟨by kernel_rfl, ?_⟩) hHeld ?_
    rotate_left
    · intro w hSw
      go_simp
      first | (with_reducible rfl) | (rw [if_neg (by first | omega | (simp; omega))])
    refine wpAnyH_take (i := 12) (v := ?_) rfl (by kernel_rfl) (by kernel_rfl) (by kernel_rfl) (fun _ _ _ h => h) (Or.inl ⟨by kernel_rfl, ?_⟩) hHeld ?_
    rotate_left
    · intro w hSw
      have kk := hSw.cell 2
      go_simp
      first | (with_reducible rfl) | (rw [if_neg (by first | omega | (simp; omega))])
    refine wpAnyH_take (i := 14) (v := ?_) rfl (by kernel_rfl) (by kernel_rfl) (by kernel_rfl) (fun _ _ _ h => h) (Or.inl ⟨by kernel_rfl, ?_⟩) hHeld ?_
    rotate_left
    · intro w hSw
      go_simp
      first | (with_reducible rfl) | (rw [if_neg (by first | omega | (simp; omega))])
    refine wpAnyH_ready (rs := [2]) (by kernel_rfl) (by simp) ?_
    refine AllReadyH.cons rfl (fun K hK => ?_) AllReadyH.nil
    go_simp
    go_at_call 47
    refine (hp _).mono ?_
    rintro e wl ⟨rfl, hb⟩
    have HR := Lib.hid (Blk.below HR.out hb)
    have HB := Lib.hid (below_then HB.out hb)
    have hh := Blk.below hHeld hb
    clear hb
    go_simp
    refine hK.out _ _ hh (fun hHeld => ?_)
    clear hK K
    clear hh
    refine wpAnyH_ready (rs := [4]) (by kernel_rfl) (by simp) ?_
    refine AllReadyH.cons rfl (fun K hK => ?_) AllReadyH.nil
    go_simp
    go_at_call 50
    refine (hq _).mono ?_
    rintro e wl ⟨rfl, hb⟩
    have HR := Lib.hid (Blk.below HR.out hb)
    have HB := Lib.hid (below_then HB.out hb)
    have hh := Blk.below hHeld hb
    clear hb
    go_simp
    refine hK.out _ _ hh (fun hHeld => ?_)
    clear hK K
    clear hh
    refine wpAnyH_ready (rs := [7]) (by kernel_rfl) (by simp) ?_
    refine AllReadyH.cons rfl (fun K hK => ?_) AllReadyH.nil
    go_simp
    go_at_call 48
    refine (vnumE _ _ _).mono ?_
    rintro e wl ⟨rfl, hb⟩
    have HR := Lib.hid (Blk.below HR.out hb)
    have HB := Lib.hid (below_then HB.out hb)
    have hh := Blk.below hHeld hb
    clear hb
    go_simp
    refine hK.out _ _ hh (fun hHeld => ?_)
    clear hK K
    clear hh
    refine wpAnyH_ready (rs := [10]) (by kernel_rfl) (by simp) ?_
    refine AllReadyH.cons rfl (fun K hK => ?_) AllReadyH.nil
    go_simp
    go_at_call 48
    refine (vnumE _ _ _).mono ?_
    rintro e wl ⟨rfl, hb⟩
    have HR := Lib.hid (Blk.below HR.out hb)
    have HB := Lib.hid (below_then HB.out hb)
    have hh := Blk.below hHeld hb
    clear hb
    go_simp
    refine hK.out _ _ hh (fun hHeld => ?_)
    clear hK K
    clear hh
    refine wpAnyH_ready (rs := [13]) (by kernel_rfl) (by simp) ?_
    refine AllReadyH.cons rfl (fun K hK => ?_) AllReadyH.nil
    go_simp
    go_at_call 48
    refine (vnumE _ _ _).mono ?_
    rintro e wl ⟨rfl, hb⟩
    have HR := Lib.hid (Blk.below HR.out hb)
    have HB := Lib.hid (below_then HB.out hb)
    have hh := Blk.below hHeld hb
    clear hb
    go_simp
    refine hK.out _ _ hh (fun hHeld => ?_)
    clear hK K
    clear hh
    refine wpAnyH_ready (rs := [15]) (by kernel_rfl) (by simp) ?_
    refine AllReadyH.cons rfl (fun K hK => ?_) AllReadyH.nil
    go_simp
    go_at_call 48
    refine (vnumE _ _ _).mono ?_
    rintro e wl ⟨rfl, hb⟩
    have HR := Lib.hid (Blk.below HR.out hb)
    have HB := Lib.hid (below_then HB.out hb)
    have hh := Blk.below hHeld hb
    clear hb
    go_simp
    refine hK.out _ _ hh (fun hHeld => ?_)
    clear hK K
    clear hh
    have HRl := HR
    refine wpAnyH_ready (rs := [16]) (by kernel_rfl) (by simp) ?_
    refine AllReadyH.cons rfl (fun K hK => ?_) AllReadyH.nil
    have HR := Lib.hid (HR.out.alloc (.cells (cfP p q li ra fa en) 79))
    have HB := Lib.hid (HB.out.alloc HB.out.size (.cells (cfP p q li ra fa en) 79))
    have hh := Blk.alloc hHeld (.cells (cfP p q li ra fa en) 79)
    go_simp
    refine hK.out _ _ hh (fun hHeld => ?_)
    clear hK K
    clear hh
    refine wpAnyH_take (i := 17) (v := ?_) rfl (by kernel_rfl) (by kernel_rfl) (by kernel_rfl) (fun _ _ _ h => h) (Or.inl ⟨by kernel_rfl, ?_⟩) hHeld ?_
    rotate_left
    · intro w hSw
      go_simp
      first | (with_reducible rfl) | (rw [if_neg (by first | omega | (simp; omega))])
    have g0 : (w.heap.size + 1) ≠ w.heap.size + 2 := by omega
    have g1 : wl.heap.size ≠ w.heap.size + 2 := by have h1 := HR.out.lt; have h2 := Below.size HB.out; have h3 := hHeld.lt; have h4 := HRl.out.lt; omega
    refine wpAnyH_ready (rs := [18]) (by kernel_rfl) (by simp) ?_
    refine AllReadyH.cons rfl (fun K hK => ?_) AllReadyH.nil
    have c0 : (wl.alloc (.cells (cfP p q li ra fa en) 79)).cell? ⟨w.heap.size + 2, 0, none⟩ = some (.int .i64 0) := HR.out.cell 0
    have c1 : (wl.alloc (.cells (cfP p q li ra fa en) 79)).cell? ⟨w.heap.size + 2, 1, none⟩ = some (.int .i64 0) := HR.out.cell 1
    have c2 : (wl.alloc (.cells (cfP p q li ra fa en) 79)).cell? ⟨w.heap.size + 2, 2, none⟩ = some (.int .i64 0) := HR.out.cell 2
    have c3 : (wl.alloc (.cells (cfP p q li ra fa en) 79)).cell? ⟨w.heap.size + 2, 3, none⟩ = some (.slice none 0 0) := HR.out.cell 3
    have f0 : (wl.alloc (.cells (cfP p q li ra fa en) 79)).frozen? ⟨w.heap.size + 2, 0, none⟩ = false := HR.out.free 0
    have f1 : (wl.alloc (.cells (cfP p q li ra fa en) 79)).frozen? ⟨w.heap.size + 2, 1, none⟩ = false := HR.out.free 1
    have f2 : (wl.alloc (.cells (cfP p q li ra fa en) 79)).frozen? ⟨w.heap.size + 2, 2, none⟩ = false := HR.out.free 2
    have f3 : (wl.alloc (.cells (cfP p q li ra fa en) 79)).frozen? ⟨w.heap.size + 2, 3, none⟩ = false := HR.out.free 3
    have hh := (Blk.put_other (p := ⟨w.heap.size + 2, 3, none⟩) (Blk.put_other (p := ⟨w.heap.size + 2, 2, none⟩) (Blk.put_other (p := ⟨w.heap.size + 2, 1, none⟩) (Blk.put_other (p := ⟨w.heap.size + 2, 0, none⟩) hHeld (.int .i64 1305) g0) (.int .i64 t) g0) (.int .i64 0) g0) (.slice (some ⟨wl.heap.size, 0, none⟩) 6 6) g0)
    have HRz := Lib.hid (((((HR.out).put 0 (.int .i64 1305)).put 1 (.int .i64 t)).put 2 (.int .i64 0)).put 3 (.slice (some ⟨wl.heap.size, 0, none⟩) 6 6))
    have HPz := Lib.hid ((Blk.put_other (p := ⟨w.heap.size + 2, 3, none⟩) (Blk.put_other (p := ⟨w.heap.size + 2, 2, none⟩) (Blk.put_other (p := ⟨w.heap.size + 2, 1, none⟩) (Blk.put_other (p := ⟨w.heap.size + 2, 0, none⟩) (Blk.new wl (cfP p q li ra fa en) 79) (.int .i64 1305) g1) (.int .i64 t) g1) (.int .i64 0) g1) (.slice (some ⟨wl.heap.size, 0, none⟩) 6 6) g1))
    have HBz := Lib.hid (HB.out.grown ((only_setCell (p := ⟨w.heap.size + 2, 3, none⟩) (only_setCell (p := ⟨w.heap.size + 2, 2, none⟩) (only_setCell (p := ⟨w.heap.size + 2, 1, none⟩) (only_setCell (p := ⟨w.heap.size + 2, 0, none⟩) (show (wl.alloc (.cells (cfP p q li ra fa en) 79)).grownBy (wl.alloc (.cells (cfP p q li ra fa en) 79)) (some (w.heap.size + 2)) from ⟨rfl, rfl, rfl, Nat.le_refl _, fun i hi _ => rfl⟩) (.inl rfl) (.int .i64 1305)) (.inl rfl) (.int .i64 t)) (.inl rfl) (.int .i64 0)) (.inl rfl) (.slice (some ⟨wl.heap.size, 0, none⟩) 6 6))) HB.out.size (fun k e => by injection e with e; omega))
    go_simp
    refine hK.out _ _ hh (fun hHeld => ?_)
    clear hK K
    clear hh c0 c1 c2 c3 f0 f1 f2 f3
    refine wpAnyH_done (by kernel_rfl) ?_ _
    go_wp2_with fail
    refine bodyPost_ret (rc_retN (n := 10) (fn := Tryz.f29) rfl _ _ (w.heap.size + 2) (cfQ p q li ra fa en t) (.slice (some ⟨wl.heap.size, 0, none⟩) 6 6) rfl HRz.out) rfl ?_
    exact ⟨some ⟨wl.heap.size, 0, none⟩, 6, rfl, row_blkEl EP HPz.out (cfL p q li ra fa en) rfl HPz.out.lt, HBz.out⟩
set_option maxRecDepth 100000 in
set_option maxHeartbeats 16000000 in
theorem rconfigQ (op : ByteArray) (r : Rul) (A : Option Addr) (n c : Nat) (s0 s : ByteArray) (k li ra fa en t : Int) (p q : Pr) (hp : ∀ w : World, Calls Tryz.prog 54 #[.string ⟨#[111, 112]⟩, .string op] w fun e w' => e = .returned (prV p) ∧ Below w.heap.size w w') (hq : ∀ w : World, Calls Tryz.prog 56 #[.string ⟨#[114, 117, 108, 101]⟩, .string s] w fun e w' => e = .returned (prV q) ∧ Below w.heap.size w w')
    (hk : s0 = s) (w : World) (hf : ∀ W : World, Below w.heap.size w W → Calls Tryz.prog 78 #[rulV r (.slice A n c)] W fun e w' => e = .returned (.tuple #[.string s0, .int .i64 k]) ∧ Below W.heap.size W w') :
    Calls Tryz.prog 34 #[.string op, rulV r (.slice A n c), .agg (blC li ra fa), .int .i64 en, .int .i64 t] w (RetR (cfQ p q li ra fa en t) w) := by
  have HFM := Lib.hid hf
  subst hk
  have X0 := Lib.hid (show Blk (((w.alloc (.cells (rulC r (.slice A n c)) 90)).alloc (.cells (blC li ra fa) 104)).alloc (.cells zrC 77)) w.heap.size 90 (rulC r (.slice A n c)) from ((Blk.new w (rulC r (.slice A n c)) 90).alloc _).alloc _)
  have X1 : Blk (((w.alloc (.cells (rulC r (.slice A n c)) 90)).alloc (.cells (blC li ra fa) 104)).alloc (.cells zrC 77)) (w.heap.size + 1) 104 (blC li ra fa) := by
    have := (Blk.new (w.alloc (.cells (rulC r (.slice A n c)) 90)) (blC li ra fa) 104).alloc (.cells zrC 77)
    simpa using this
  have X2 : Blk (((w.alloc (.cells (rulC r (.slice A n c)) 90)).alloc (.cells (blC li ra fa) 104)).alloc (.cells zrC 77)) (w.heap.size + 2) 77 zrC := by
    have := Blk.new ((w.alloc (.cells (rulC r (.slice A n c)) 90)).alloc (.cells (blC li ra fa) 104)) zrC 77
    simpa using this
  have hB0 : Below w.heap.size w (((w.alloc (.cells (rulC r (.slice A n c)) 90)).alloc (.cells (blC li ra fa) 104)).alloc (.cells zrC 77)) := (((Below.refl _ _).alloc (Nat.le_refl _) _).alloc (by simp) _).alloc (by simp; omega) _
  have X1 := Lib.hid X1
  have X2 := Lib.hid X2
  have HB := Lib.hid hB0
  clear hB0 hf
  go_enter Tryz.func34, Tryz.ntmps34
  go_wp2_with ((with_reducible refine load_blk ?_ 90 (.tmp 6) ?_ X0.out ?_ _ Tryz.underlying90 ?_ ?_ ?_); (iterate 4 rfl); exact rul_sz _ _)
  refine (HFM.out _ HB.out).mono ?_
  rintro e w1 ⟨rfl, hb1⟩
  have HR := Lib.hid (Blk.below (Blk.below X2.out hb1) (Below.refl _ _).drew)
  have HBn := Lib.hid (below_then HB.out hb1).drew
  have XB := Lib.hid (Blk.below (Blk.below X1.out hb1) (Below.refl _ _).drew)
  clear hb1 X0 X1 X2 HFM HB
  have HB := HBn
  clear HBn
  go_upto_region 2 with (fail)
  refine wp_region_held_drew (S := (fun w' => Blk w' (w.heap.size + 1) 104 (blC li ra fa))) (by kernel_rfl) XB.out (fun hHeld => ?_)
  clear XB
  refine wpAnyH_take (i := 0) (v := ?_) rfl (by kernel_rfl) (by kernel_rfl) (by kernel_rfl) (fun _ _ _ h => h) (Or.inl ⟨by kernel_rfl, ?_⟩) hHeld ?_
  rotate_left
  · intro w hSw
    go_simp
    first | (with_reducible rfl) | (rw [if_neg (by first | omega | (simp; omega))])
  refine wpAnyH_take (i := 1) (v := ?_) rfl (by kernel_rfl) (by kernel_rfl) (by kernel_rfl) (fun _ _ _ h => h) (Or.inl ⟨by kernel_rfl, ?_⟩) hHeld ?_
  rotate_left
  · intro w hSw
    go_simp
    first | (with_reducible rfl) | (rw [if_neg (by first | omega | (simp; omega))])
  refine wpAnyH_take (i := 3) (v := ?_) rfl (by kernel_rfl) (by kernel_rfl) (by kernel_rfl) (fun _ _ _ h => h) (Or.inl ⟨by kernel_rfl, ?_⟩) hHeld ?_
  rotate_left
  · intro w hSw
    go_simp
    first | (with_reducible rfl) | (rw [if_neg (by first | omega | (simp; omega))])
  refine wpAnyH_take (i := 5) (v := ?_) rfl (by kernel_rfl) (by kernel_rfl) (by kernel_rfl) (fun _ _ _ h => h) (Or.inl ⟨by kernel_rfl, ?_⟩) hHeld ?_
  rotate_left
  · intro w hSw
    go_simp
    first | (with_reducible rfl) | (rw [if_neg (by first | omega | (simp; omega))])
  refine wpAnyH_take (i := 6) (v := ?_) rfl (by kernel_rfl) (by kernel_rfl) (by kernel_rfl) (fun _ _ _ h => h) (Or.inl ⟨by kernel_rfl, ?_⟩) hHeld ?_
  rotate_left
  · intro w hSw
    have kk := hSw.cell 0
    go_simp
    first | (with_reducible rfl) | (rw [if_neg (by first | omega | (simp; omega))])
  refine wpAnyH_take (i := 8) (v := ?_) rfl (by kernel_rfl) (by kernel_rfl) (by kernel_rfl) (fun _ _ _ h => h) (Or.inl ⟨by kernel_rfl, ?_⟩) hHeld ?_
  rotate_left
  · intro w hSw
    go_simp
    first | (with_reducible rfl) | (rw [if_neg (by first | omega | (simp; omega))])
  refine wpAnyH_take (i := 9) (v := ?_) rfl (by kernel_rfl) (by kernel_rfl) (by kernel_rfl) (fun _ _ _ h => h) (Or.inl ⟨by kernel_rfl, ?_⟩) hHeld ?_
  rotate_left
  · intro w hSw
    have kk := hSw.cell 1
    go_simp
    first | (with_reducible rfl) | (rw [if_neg (by first | omega | (simp; omega))])
  refine wpAnyH_take (i := 11) (v := ?_) rfl (by kernel_rfl) (by kernel_rfl) (by kernel_rfl) (fun _ _ _ h => h) (Or.inl ⟨by kernel_rfl, ?_⟩) hHeld ?_
  rotate_left
  · intro w hSw
    go_simp
    first | (with_reducible rfl) | (rw [if_neg (by first | omega | (simp; omega))])
  refine wpAnyH_take (i := 12) (v := ?_) rfl (by kernel_rfl) (by kernel_rfl) (by kernel_rfl) (fun _ _ _ h => h) (Or.inl ⟨by kernel_rfl, ?_⟩) hHeld ?_
  rotate_left
  · intro w hSw
    have kk := hSw.cell 2
    go_simp
    first | (with_reducible rfl) | (rw [if_neg (by first | omega | (simp; omega))])
  refine wpAnyH_take (i := 14) (v := ?_) rfl (by kernel_rfl) (by kernel_rfl) (by kernel_rfl) (fun _ _ _ h => h) (Or.inl ⟨by kernel_rfl, ?_⟩) hHeld ?_
  rotate_left
  · intro w hSw
    go_simp
    first | (with_reducible rfl) | (rw [if_neg (by first | omega | (simp; omega))])
  refine wpAnyH_ready (rs := [2]) (by kernel_rfl) (by simp) ?_
  refine AllReadyH.cons rfl (fun K hK => ?_) AllReadyH.nil
  go_simp
  go_at_call 54
  refine (hp _).mono ?_
  rintro e wl ⟨rfl, hb⟩
  have HR := Lib.hid (Blk.below HR.out hb)
  have HB := Lib.hid (below_then HB.out hb)
  have hh := Blk.below hHeld hb
  clear hb
  go_simp
  refine hK.out _ _ hh (fun hHeld => ?_)
  clear hK K
  clear hh
  refine wpAnyH_ready (rs := [4]) (by kernel_rfl) (by simp) ?_
  refine AllReadyH.cons rfl (fun K hK => ?_) AllReadyH.nil
  go_simp
  go_at_call 56
  refine (hq _).mono ?_
  rintro e wl ⟨rfl, hb⟩
  have HR := Lib.hid (Blk.below HR.out hb)
  have HB := Lib.hid (below_then HB.out hb)
  have hh := Blk.below hHeld hb
  clear hb
  go_simp
  refine hK.out _ _ hh (fun hHeld => ?_)
  clear hK K
  clear hh
  refine wpAnyH_ready (rs := [7]) (by kernel_rfl) (by simp) ?_
  refine AllReadyH.cons rfl (fun K hK => ?_) AllReadyH.nil
  go_simp
  go_at_call 55
  refine (rnumE _ _ _).mono ?_
  rintro e wl ⟨rfl, hb⟩
  have HR := Lib.hid (Blk.below HR.out hb)
  have HB := Lib.hid (below_then HB.out hb)
  have hh := Blk.below hHeld hb
  clear hb
  go_simp
  refine hK.out _ _ hh (fun hHeld => ?_)
  clear hK K
  clear hh
  refine wpAnyH_ready (rs := [10]) (by kernel_rfl) (by simp) ?_
  refine AllReadyH.cons rfl (fun K hK => ?_) AllReadyH.nil
  go_simp
  go_at_call 55
  refine (rnumE _ _ _).mono ?_
  rintro e wl ⟨rfl, hb⟩
  have HR := Lib.hid (Blk.below HR.out hb)
  have HB := Lib.hid (below_then HB.out hb)
  have hh := Blk.below hHeld hb
  clear hb
  go_simp
  refine hK.out _ _ hh (fun hHeld => ?_)
  clear hK K
  clear hh
  refine wpAnyH_ready (rs := [13]) (by kernel_rfl) (by simp) ?_
  refine AllReadyH.cons rfl (fun K hK => ?_) AllReadyH.nil
  go_simp
  go_at_call 55
  refine (rnumE _ _ _).mono ?_
  rintro e wl ⟨rfl, hb⟩
  have HR := Lib.hid (Blk.below HR.out hb)
  have HB := Lib.hid (below_then HB.out hb)
  have hh := Blk.below hHeld hb
  clear hb
  go_simp
  refine hK.out _ _ hh (fun hHeld => ?_)
  clear hK K
  clear hh
  refine wpAnyH_ready (rs := [15]) (by kernel_rfl) (by simp) ?_
  refine AllReadyH.cons rfl (fun K hK => ?_) AllReadyH.nil
  go_simp
  go_at_call 55
  refine (rnumE _ _ _).mono ?_
  rintro e wl ⟨rfl, hb⟩
  have HR := Lib.hid (Blk.below HR.out hb)
  have HB := Lib.hid (below_then HB.out hb)
  have hh := Blk.below hHeld hb
  clear hb
  go_simp
  refine hK.out _ _ hh (fun hHeld => ?_)
  clear hK K
  clear hh
  have HRl := HR
  refine wpAnyH_ready (rs := [16]) (by kernel_rfl) (by simp) ?_
  refine AllReadyH.cons rfl (fun K hK => ?_) AllReadyH.nil
  have HR := Lib.hid (HR.out.alloc (.cells (cfP p q li ra fa en) 79))
  have HB := Lib.hid (HB.out.alloc HB.out.size (.cells (cfP p q li ra fa en) 79))
  have hh := Blk.alloc hHeld (.cells (cfP p q li ra fa en) 79)
  go_simp
  refine hK.out _ _ hh (fun hHeld => ?_)
  clear hK K
  clear hh
  refine wpAnyH_take (i := 17) (v := ?_) rfl (by kernel_rfl) (by kernel_rfl) (by kernel_rfl) (fun _ _ _ h => h) (Or.inl ⟨by kernel_rfl, ?_⟩) hHeld ?_
  rotate_left
  · intro w hSw
    go_simp
    first | (with_reducible rfl) | (rw [if_neg (by first | omega | (simp; omega))])
  have g0 : (w.heap.size + 1) ≠ w.heap.size + 2 := by omega
  have g1 : wl.heap.size ≠ w.heap.size + 2 := by have h1 := HR.out.lt; have h2 := Below.size HB.out; have h3 := hHeld.lt; have h4 := HRl.out.lt; omega
  refine wpAnyH_ready (rs := [18]) (by kernel_rfl) (by simp) ?_
  refine AllReadyH.cons rfl (fun K hK => ?_) AllReadyH.nil
  have c0 : (wl.alloc (.cells (cfP p q li ra fa en) 79)).cell? ⟨w.heap.size + 2, 0, none⟩ = some (.int .i64 0) := HR.out.cell 0
  have c1 : (wl.alloc (.cells (cfP p q li ra fa en) 79)).cell? ⟨w.heap.size + 2, 1, none⟩ = some (.int .i64 0) := HR.out.cell 1
  have c2 : (wl.alloc (.cells (cfP p q li ra fa en) 79)).cell? ⟨w.heap.size + 2, 2, none⟩ = some (.int .i64 0) := HR.out.cell 2
  have c3 : (wl.alloc (.cells (cfP p q li ra fa en) 79)).cell? ⟨w.heap.size + 2, 3, none⟩ = some (.slice none 0 0) := HR.out.cell 3
  have f0 : (wl.alloc (.cells (cfP p q li ra fa en) 79)).frozen? ⟨w.heap.size + 2, 0, none⟩ = false := HR.out.free 0
  have f1 : (wl.alloc (.cells (cfP p q li ra fa en) 79)).frozen? ⟨w.heap.size + 2, 1, none⟩ = false := HR.out.free 1
  have f2 : (wl.alloc (.cells (cfP p q li ra fa en) 79)).frozen? ⟨w.heap.size + 2, 2, none⟩ = false := HR.out.free 2
  have f3 : (wl.alloc (.cells (cfP p q li ra fa en) 79)).frozen? ⟨w.heap.size + 2, 3, none⟩ = false := HR.out.free 3
  have hh := (Blk.put_other (p := ⟨w.heap.size + 2, 3, none⟩) (Blk.put_other (p := ⟨w.heap.size + 2, 2, none⟩) (Blk.put_other (p := ⟨w.heap.size + 2, 1, none⟩) (Blk.put_other (p := ⟨w.heap.size + 2, 0, none⟩) hHeld (.int .i64 1305) g0) (.int .i64 t) g0) (.int .i64 0) g0) (.slice (some ⟨wl.heap.size, 0, none⟩) 6 6) g0)
  have HRz := Lib.hid (((((HR.out).put 0 (.int .i64 1305)).put 1 (.int .i64 t)).put 2 (.int .i64 0)).put 3 (.slice (some ⟨wl.heap.size, 0, none⟩) 6 6))
  have HPz := Lib.hid ((Blk.put_other (p := ⟨w.heap.size + 2, 3, none⟩) (Blk.put_other (p := ⟨w.heap.size + 2, 2, none⟩) (Blk.put_other (p := ⟨w.heap.size + 2, 1, none⟩) (Blk.put_other (p := ⟨w.heap.size + 2, 0, none⟩) (Blk.new wl (cfP p q li ra fa en) 79) (.int .i64 1305) g1) (.int .i64 t) g1) (.int .i64 0) g1) (.slice (some ⟨wl.heap.size, 0, none⟩) 6 6) g1))
  have HBz := Lib.hid (HB.out.grown ((only_setCell (p := ⟨w.heap.size + 2, 3, none⟩) (only_setCell (p := ⟨w.heap.size + 2, 2, none⟩) (only_setCell (p := ⟨w.heap.size + 2, 1, none⟩) (only_setCell (p := ⟨w.heap.size + 2, 0, none⟩) (show (wl.alloc (.cells (cfP p q li ra fa en) 79)).grownBy (wl.alloc (.cells (cfP p q li ra fa en) 79)) (some (w.heap.size + 2)) from ⟨rfl, rfl, rfl, Nat.le_refl _, fun i hi _ => rfl⟩) (.inl rfl) (.int .i64 1305)) (.inl rfl) (.int .i64 t)) (.inl rfl) (.int .i64 0)) (.inl rfl) (.slice (some ⟨wl.heap.size, 0, none⟩) 6 6))) HB.out.size (fun k e => by injection e with e; omega))
  go_simp
  refine hK.out _ _ hh (fun hHeld => ?_)
  clear hK K
  clear hh c0 c1 c2 c3 f0 f1 f2 f3
  refine wpAnyH_done (by kernel_rfl) ?_ _
  go_wp2_with fail
  refine bodyPost_ret (rc_retN (n := 10) (fn := Tryz.f34) rfl _ _ (w.heap.size + 2) (cfQ p q li ra fa en t) (.slice (some ⟨wl.heap.size, 0, none⟩) 6 6) rfl HRz.out) rfl ?_
  exact ⟨some ⟨wl.heap.size, 0, none⟩, 6, rfl, row_blkEl EP HPz.out (cfL p q li ra fa en) rfl HPz.out.lt, HBz.out⟩
theorem vconfig (op : ByteArray) (r : Rul) (A : Option Addr) (n c : Nat) (li ra fa en t : Int) (hn : n = r.ts.length) (hz : SizR r) (hi : ∀ t ∈ r.ts, I64 t.nu) (w : World) (hT : TestsAt w w.heap.size A r.ts) (hG : RGlob w) :
    Calls Tryz.prog 29 #[.string op, rulV r (.slice A n c), .agg (blC li ra fa), .int .i64 en, .int .i64 t] w (RetR (cfR op (fmtR r) li ra fa en t) w) :=
  vconfigQ op r A n c (fmtR r) (fmtR r) (checkR r) li ra fa en t _ _ (fun w => vtextA _ op w) (fun w => vsomeA _ (fmtR r) w) (by
    by_cases h : checkR r = 0
    · exact .inl ⟨h, rfl⟩
    · exact .inr ⟨h, fmt_bad h⟩) w (fun W h => vformatR r A n c hn hz hi W ((hT.keep h (Nat.le_refl _)).more h.size) (hG.below h))
theorem rconfig (op : ByteArray) (r : Rul) (A : Option Addr) (n c : Nat) (li ra fa en t : Int) (hn : n = r.ts.length) (hz : SizR r) (hi : ∀ t ∈ r.ts, I64 t.nu) (w : World) (hT : TestsAt w w.heap.size A r.ts) :
    Calls Tryz.prog 34 #[.string op, rulV r (.slice A n c), .agg (blC li ra fa), .int .i64 en, .int .i64 t] w (RetR (cfR op (fmtR r) li ra fa en t) w) :=
  rconfigQ op r A n c (fmtR r) (fmtR r) (checkR r) li ra fa en t _ _ (fun w => rtxtA _ op w) (fun w => rsomeA _ (fmtR r) w) rfl w (fun W h => rformatR r A n c hn hz hi W ((hT.keep h (Nat.le_refl _)).more h.size))
end Go.Proofs.YtollifnnpihfdaaGreatDoor

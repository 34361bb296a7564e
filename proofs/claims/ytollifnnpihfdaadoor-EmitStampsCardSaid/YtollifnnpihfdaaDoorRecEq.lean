/- Pairs and records compared, and cloned. -/
import Derived.Test.YtollifnnpihfdaaDoorSrcRec
import Derived.Laws.StructEq
import Derived.Deep.QuietTactic
import Derived.BigQuiet
namespace Go.Proofs.YtollifnnpihfdaaDoor
open Go.RowKit
theorem eqI (w : World) (d : Nat) (x y : Int) : (Op.equalIn (d + 1) 3 (.int .i64 x) (.int .i64 y)).run Tryd.prog w = .ok (x == y) w := by
  simp [Op.equalIn, run_underlying Tryd.underlying3]
theorem eqS (w : World) (d : Nat) (x y : ByteArray) : (Op.equalIn (d + 1) 9 (.string x) (.string y)).run Tryd.prog w = .ok (x.toList == y.toList) w := by
  simp [Op.equalIn, run_underlying Tryd.underlying9, beq_toListBytes]
theorem map_four {α β : Type} {l : List α} {g : α → β} {x0 x1 x2 x3 : β} (h : l.map g = [x0, x1, x2, x3]) : ∃ f0 f1 f2 f3, l = [f0, f1, f2, f3] ∧ g f0 = x0 ∧ g f1 = x1 ∧ g f2 = x2 ∧ g f3 = x3 := by
  have hl := congrArg List.length h
  simp at hl
  match l, hl with
  | [f0, f1, f2, f3], _ =>
    simp at h
    exact ⟨f0, f1, f2, f3, rfl, h.1, h.2.1, h.2.2.1, h.2.2.2⟩
set_option maxRecDepth 100000 in
theorem pr_eq (p : Pr) (w : World) : (Op.equalIn 10000 39 (prV p) (prV p)).run Tryd.prog w = .ok true w := by
  have hu : Tryd.prog.underlying 39 = some (.struct (Tryd.prog.fieldsOf 39)) := by kernel_rfl
  have hs : Tryd.prog.stoodInHeld 39 = false := by kernel_rfl
  rw [run_equalIn_struct w 9999 _ _ _ hu hs]
  obtain ⟨a, b, c, d⟩ := p
  have hm : (Tryd.prog.fieldsOf 39).toList.map (fun f => (f.name == "_", f.type, f.offset)) = [(false, 9, 0), (false, 3, 1), (false, 3, 2), (false, 9, 3)] := by kernel_rfl
  obtain ⟨f0, f1, f2, f3, hl, e0, e1, e2, e3⟩ := map_four hm
  simp only [Prod.mk.injEq, beq_eq_false_iff_ne, ne_eq] at e0 e1 e2 e3
  obtain ⟨n0, t0, o0⟩ := e0
  obtain ⟨n1, t1, o1⟩ := e1
  obtain ⟨n2, t2, o2⟩ := e2
  obtain ⟨n3, t3, o3⟩ := e3
  have p0 : ∀ (a d : ByteArray) (b c : Int) (w : World), (part 9 #[.string a, .int .i64 b, .int .i64 c, .string d] 0).run Tryd.prog w = .ok (.string a) w := fun _ _ _ _ _ => by show _ = _; kernel_rfl
  have p1 : ∀ (a d : ByteArray) (b c : Int) (w : World), (part 3 #[.string a, .int .i64 b, .int .i64 c, .string d] 1).run Tryd.prog w = .ok (.int .i64 b) w := fun _ _ _ _ _ => by show _ = _; kernel_rfl
  have p2 : ∀ (a d : ByteArray) (b c : Int) (w : World), (part 3 #[.string a, .int .i64 b, .int .i64 c, .string d] 2).run Tryd.prog w = .ok (.int .i64 c) w := fun _ _ _ _ _ => by show _ = _; kernel_rfl
  have p3 : ∀ (a d : ByteArray) (b c : Int) (w : World), (part 9 #[.string a, .int .i64 b, .int .i64 c, .string d] 3).run Tryd.prog w = .ok (.string d) w := fun _ _ _ _ _ => by show _ = _; kernel_rfl
  have ei := fun x y w => eqI w 9998 x y
  have es := fun x y w => eqS w 9998 x y
  rw [hl]
  simp only [Op.eqFields, n0, n1, n2, n3, not_false_eq_true, t0, t1, t2, t3, o0, o1, o2, o3, ne_eq, not_false_eq_true, if_true, Sem.run_bind, p0, Result.andThen_ok, ei, es]
  simp [p0, p1, p2, p3, ei, es]
theorem pr_cells {w : World} {a : Addr} {p : Pr} (h : ∀ j, j < 4 → w.cell? (a.add j) = (EP.C p)[j]?) :
    w.cell? a = some (.string p.nm) ∧ w.cell? ⟨a.block, a.off + 1, none⟩ = some (.int .i64 p.kd) ∧ w.cell? ⟨a.block, a.off + 2, none⟩ = some (.int .i64 p.nu) ∧ w.cell? ⟨a.block, a.off + 3, none⟩ = some (.string p.tx) :=
  ⟨h 0 (by omega), h 1 (by omega), h 2 (by omega), h 3 (by omega)⟩
theorem rc_cells {w : World} {a : Addr} {x : Rm} (h : ∀ j, j < 4 → w.cell? (a.add j) = (ER.C x)[j]?) :
    w.cell? a = some (.int .i64 x.r.ty) ∧ w.cell? ⟨a.block, a.off + 1, none⟩ = some (.int .i64 x.r.ti) ∧ w.cell? ⟨a.block, a.off + 2, none⟩ = some (.int .i64 x.r.se) ∧ w.cell? ⟨a.block, a.off + 3, none⟩ = some (.slice x.A x.r.ps.length x.c) :=
  ⟨h 0 (by omega), h 1 (by omega), h 2 (by omega), h 3 (by omega)⟩
set_option maxRecDepth 100000 in
set_option maxHeartbeats 4000000 in
theorem rsamePairs (A B : Option Addr) (n ca cb : Nat) (ps : List Pr) (hn : n = ps.length) (hl : n ≤ 1000000) (w : World) (ha : AtE EP w w.heap.size A ps) (hb : AtE EP w w.heap.size B ps) :
    Calls Tryd.prog 14 #[.slice A n ca, .slice B n cb] w fun e w' => e = .returned (.bool true) ∧ Below w.heap.size w w' := by
  have b1 : ((n : Int) != (n : Int)) = false := by simp
  have HN := Lib.hid hn
  have HA := Lib.hid ha
  have HB := Lib.hid hb
  clear hn ha hb
  go_enter Tryd.func14, Tryd.ntmps14
  go_wp2_with fail
  go_loopw [5] (fun i wr => ∃ k : Nat, k ≤ n ∧ i = .int .i64 (k : Int) ∧ Below w.heap.size w wr) (fun i _ => n - (intOf i).toNat)
  case atStart => exact ⟨0, Nat.zero_le _, rfl, Below.refl _ _⟩
  case round =>
    obtain ⟨k, hk, rfl, hbw⟩ := hrel
    have HBW := Lib.hid hbw
    by_cases hlt : k < n
    · have hkp : k < ps.length := by rw [← HN.out]; exact hlt
      obtain ⟨ad, rfl, _, hc⟩ := (HA.out.keep hbw (Nat.le_refl _)) k hkp
      obtain ⟨bd, rfl, _, hd⟩ := (HB.out.keep hbw (Nat.le_refl _)) k hkp
      obtain ⟨s0, s1, s2, s3⟩ := pr_cells (a := ad.add (k * 4)) hc
      obtain ⟨u0, u1, u2, u3⟩ := pr_cells (a := bd.add (k * 4)) hd
      have k0 : (0 : Int) ≤ (k : Int) := by omega
      have kn : (k : Int) < (n : Int) := by omega
      clear hbw hc hd
      generalize ps[k] = p at *
      have hq := pr_eq p
      go_wp2_with fail
      go_quiet (fail)
      go_wp2_with fail
      go_roundw
      case rel => exact ⟨k + 1, by omega, by go_num, below_drewN HBW.out _⟩
      case measure => simp [intOf]; omega
    · have hkn : k = n := by omega
      subst hkn
      clear hlt hbw
      go_wp2_with fail
      go_ret
      exact ⟨rfl, HBW.out⟩
theorem two_rc (w : World) (x z : Rc) (v u : Value) : RcB ((w.alloc (.cells (rcC x v) 29)).alloc (.cells (rcC z u) 29)) w.heap.size x v ∧ RcB ((w.alloc (.cells (rcC x v) 29)).alloc (.cells (rcC z u) 29)) (w.heap.size + 1) z u ∧ Below w.heap.size w ((w.alloc (.cells (rcC x v) 29)).alloc (.cells (rcC z u) 29)) := by
  refine ⟨(Blk.new w _ _).alloc _, ?_, ((Below.refl _ _).alloc (Nat.le_refl _) _).alloc (by simp) _⟩
  have := Blk.new (w.alloc (.cells (rcC x v) 29)) (rcC z u) 29
  simpa using this
set_option maxRecDepth 100000 in
set_option maxHeartbeats 4000000 in
theorem rsame (r : Rc) (A B : Option Addr) (n ca cb : Nat) (hn : n = r.ps.length) (hl : n ≤ 1000000) (w : World) (ha : AtE EP w w.heap.size A r.ps) (hb : AtE EP w w.heap.size B r.ps) :
    Calls Tryd.prog 8 #[rcV r (.slice A n ca), rcV r (.slice B n cb)] w fun e w' => e = .returned (.bool true) ∧ Below w.heap.size w w' := by
  obtain ⟨x1, x2, hb0⟩ := two_rc w r r (.slice A n ca) (.slice B n cb)
  have HS := Lib.hid (rsamePairs A B n ca cb r.ps hn hl _ (ha.below hb0) (hb.below hb0))
  have HB0 := Lib.hid hb0
  have c0 := x1.cell 0
  have c1 := x1.cell 1
  have c2 := x1.cell 2
  have c3 := x1.cell 3
  have d0 := x2.cell 0
  have d1 := x2.cell 1
  have d2 := x2.cell 2
  have d3 := x2.cell 3
  have t1 : (r.ty == r.ty) = true := by simp
  have t2 : (r.ti == r.ti) = true := by simp
  have t3 : (r.se == r.se) = true := by simp
  clear x1 x2 hb0 ha hb hn
  go_enter Tryd.func8, Tryd.ntmps8
  go_wp2_with fail
  refine HS.out.mono ?_
  rintro e w1 ⟨rfl, hb1⟩
  have HB1 := Lib.hid (below_then HB0.out hb1)
  clear hb1
  go_wp2_with fail
  go_ret
  exact ⟨rfl, HB1.out⟩
theorem own_empty (w : World) : OwnE EP (w.alloc (.cells #[] 39)) w.heap.size (.slice (some ⟨w.heap.size, 0, none⟩) 0 0) [] :=
  ⟨rfl, .inr ⟨w.heap.size, 0, #[], rfl, Nat.le_refl _, heap_alloc_new w _, Nat.le_refl _, by unfold maxLen; omega, rfl, rfl⟩⟩
theorem nil_no (ad : Addr) (n c : Nat) (w : World) : (binOp .eql 27 (.slice (some ad) n c) (.slice none 0 0)).run Tryd.prog w = .ok (.bool false) w := by show _ = _; kernel_rfl
theorem nil_yes (n c : Nat) (w : World) : (binOp .eql 27 (.slice none n c) (.slice none 0 0)).run Tryd.prog w = .ok (.bool true) w := by show _ = _; kernel_rfl
def ClonePost (n : Nat) (ps : List Pr) (w : World) (e : Ending) (w' : World) : Prop := ∃ (A : Option Addr) (c : Nat), e = .returned (.slice A n c) ∧ OwnE EP w' w.heap.size (.slice A n c) ps ∧ Below w.heap.size w w'
theorem clone_low {w w' : World} {o : Obj} (h : (w.alloc o).grownBy w' (Value.slice (some ⟨w.heap.size, 0, none⟩) 0 0).ownBlock) : Below w.heap.size w w' :=
  ((Below.refl w.heap.size w).alloc (Nat.le_refl _) o).trans ⟨h.os, h.tape, h.output, h.size, fun i hi => h.block i (by simp; omega) (fun e => by injection e with e; simp at e; omega)⟩
set_option maxRecDepth 100000 in
set_option maxHeartbeats 4000000 in
theorem vclone (A : Option Addr) (n c : Nat) (ps : List Pr) (hn : n = ps.length) (hl : n ≤ 1000) (w : World) (h : AtE EP w w.heap.size A ps) :
    Calls Tryd.prog 13 #[.slice A n c] w (ClonePost n ps w) := by
  subst hn
  rcases A with _ | ad
  · have hM : ps = [] := by
      cases ps with
      | nil => rfl
      | cons s r => obtain ⟨ad, e, _⟩ := h 0 (by simp); cases e
    subst hM
    clear h hl
    have hq := nil_yes 0 c
    go_enter Tryd.func13, Tryd.ntmps13
    go_wp2_with fail
    go_ret
    exact ⟨none, 0, rfl, OwnE.nil _ _, Below.refl _ _⟩
  · have HB := Lib.hid (show Below w.heap.size w (w.alloc (.cells #[] 39)) from (Below.refl _ _).alloc (Nat.le_refl _) _)
    have HA := Lib.hid (h.below HB.out)
    clear h
    have hq := nil_no ad ps.length c
    go_enter Tryd.func13, Tryd.ntmps13
    go_wp2_with (refine wpList_append_el EP rfl (.tmp 5) (.tmp 6) rfl w.heap.size (.slice (some ⟨w.heap.size, 0, none⟩) 0 0) [] rfl (own_empty w) _ (some ad) ps.length c ps rfl rfl HA.out (by simp; omega) (by simp) ?_; intro v6 w6 ho6 hg6 hat6)
    obtain ⟨A', c', e6, _⟩ := OwnE.at (show OwnE EP w6 w.heap.size v6 ps from ho6)
    subst e6
    go_ret
    exact ⟨A', c', rfl, ho6, clone_low hg6⟩
end Go.Proofs.YtollifnnpihfdaaDoor

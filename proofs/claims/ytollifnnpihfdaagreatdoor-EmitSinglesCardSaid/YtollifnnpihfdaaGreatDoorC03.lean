/- Texts of one proof, laid together. -/
import Derived.Test.YtollifnnpihfdaaGreatDoorC02
import Derived.Laws.StructEq
import Derived.Deep.QuietTactic
import Derived.BigQuiet
/- Pairs and records compared, and cloned. -/
namespace Go.Proofs.YtollifnnpihfdaaGreatDoor
open Go.RowKit
theorem eqI (w : World) (d : Nat) (x y : Int) : (Op.equalIn (d + 1) 3 (.int .i64 x) (.int .i64 y)).run Tryz.prog w = .ok (x == y) w := by
  simp [Op.equalIn, run_underlying Tryz.underlying3]
theorem eqS (w : World) (d : Nat) (x y : ByteArray) : (Op.equalIn (d + 1) 9 (.string x) (.string y)).run Tryz.prog w = .ok (x.toList == y.toList) w := by
  simp [Op.equalIn, run_underlying Tryz.underlying9, beq_toListBytes]
theorem map_four {α β : Type} {l : List α} {g : α → β} {x0 x1 x2 x3 : β} (h : l.map g = [x0, x1, x2, x3]) : ∃ f0 f1 f2 f3, l = [f0, f1, f2, f3] ∧ g f0 = x0 ∧ g f1 = x1 ∧ g f2 = x2 ∧ g f3 = x3 := by
  have hl := congrArg List.length h
  simp at hl
  match l, hl with
  | [f0, f1, f2, f3], _ =>
    simp at h
    exact ⟨f0, f1, f2, f3, rfl, h.1, h.2.1, h.2.2.1, h.2.2.2⟩
set_option maxRecDepth 100000 in
theorem pr_eq (p : Pr) (w : World) : (Op.equalIn 10000 79 (prV p) (prV p)).run Tryz.prog w = .ok true w := by
  have hu : Tryz.prog.underlying 79 = some (.struct (Tryz.prog.fieldsOf 79)) := by kernel_rfl
  have hs : Tryz.prog.stoodInHeld 79 = false := by kernel_rfl
  rw [run_equalIn_struct w 9999 _ _ _ hu hs]
  obtain ⟨a, b, c, d⟩ := p
  have hm : (Tryz.prog.fieldsOf 79).toList.map (fun f => (f.name == "_", f.type, f.offset)) = [(false, 9, 0), (false, 3, 1), (false, 3, 2), (false, 9, 3)] := by kernel_rfl
  obtain ⟨f0, f1, f2, f3, hl, e0, e1, e2, e3⟩ := map_four hm
  simp only [Prod.mk.injEq, beq_eq_false_iff_ne, ne_eq] at e0 e1 e2 e3
  obtain ⟨n0, t0, o0⟩ := e0
  obtain ⟨n1, t1, o1⟩ := e1
  obtain ⟨n2, t2, o2⟩ := e2
  obtain ⟨n3, t3, o3⟩ := e3
  have p0 : ∀ (a d : ByteArray) (b c : Int) (w : World), (part 9 #[.string a, .int .i64 b, .int .i64 c, .string d] 0).run Tryz.prog w = .ok (.string a) w := fun _ _ _ _ _ => by show _ = _; kernel_rfl
  have p1 : ∀ (a d : ByteArray) (b c : Int) (w : World), (part 3 #[.string a, .int .i64 b, .int .i64 c, .string d] 1).run Tryz.prog w = .ok (.int .i64 b) w := fun _ _ _ _ _ => by show _ = _; kernel_rfl
  have p2 : ∀ (a d : ByteArray) (b c : Int) (w : World), (part 3 #[.string a, .int .i64 b, .int .i64 c, .string d] 2).run Tryz.prog w = .ok (.int .i64 c) w := fun _ _ _ _ _ => by show _ = _; kernel_rfl
  have p3 : ∀ (a d : ByteArray) (b c : Int) (w : World), (part 9 #[.string a, .int .i64 b, .int .i64 c, .string d] 3).run Tryz.prog w = .ok (.string d) w := fun _ _ _ _ _ => by show _ = _; kernel_rfl
  have ei := fun x y w => eqI w 9998 x y
  have es := fun x y w => eqS w 9998 x y
  rw [hl]
  simp only [Op.eqFields, n0, n1, n2, n3, not_false_eq_true, t0, t1, t2, t3, o0, o1, o2, o3, ne_eq, not_false_eq_true, if_true, Sem.run_bind, p0, Result.andThen_ok, ei, es]
  simp [p0, p1, p2, p3, ei, es]
theorem pr_cells {w : World} {a : Addr} {p : Pr} (h : ∀ j, j < 4 → w.cell? (a.add j) = (EP.C p)[j]?) :
    w.cell? a = some (.string p.nm) ∧ w.cell? ⟨a.block, a.off + 1, none⟩ = some (.int .i64 p.kd) ∧ w.cell? ⟨a.block, a.off + 2, none⟩ = some (.int .i64 p.nu) ∧ w.cell? ⟨a.block, a.off + 3, none⟩ = some (.string p.tx) :=
  ⟨h 0 (by omega), h 1 (by omega), h 2 (by omega), h 3 (by omega)⟩
theorem rc_cells {w : World} {a : Addr} {x : Rm} (h : ∀ j, j < 4 → w.cell? (a.add j) = (ER.C x)[j]?) :
    w.cell? a = some (.int .i64 x.r.ty) ∧ w.cell? ⟨a.block, a.off + 1, none⟩ = some (.int .i64 x.r.ti) ∧ w.cell? ⟨a.block, a.off + 2, none⟩ = some (.int .i64 x.r.se) ∧ w.cell? ⟨a.block, a.off + 3, none⟩ = some (.slice x.A x.r.ps.length x.c) :=
  ⟨h 0 (by omega), h 1 (by omega), h 2 (by omega), h 3 (by omega)⟩
set_option maxRecDepth 100000 in
set_option maxHeartbeats 4000000 in
theorem rsamePairs (A B : Option Addr) (n ca cb : Nat) (ps : List Pr) (hn : n = ps.length) (hl : n ≤ 1000000) (w : World) (ha : AtE EP w w.heap.size A ps) (hb : AtE EP w w.heap.size B ps) :
    Calls Tryz.prog 77 #[.slice A n ca, .slice B n cb] w fun e w' => e = .returned (.bool true) ∧ Below w.heap.size w w' := by
  have b1 : ((n : Int) != (n : Int)) = false := by simp
  have HN := Lib.hid hn
  have HA := Lib.hid ha
  have HB := Lib.hid hb
  clear hn ha hb
  go_enter Tryz.func77, Tryz.ntmps77
  go_wp2_with fail
  go_loopw [5] (fun i wr => ∃ k : Nat, k ≤ n ∧ i = .int .i64 (k : Int) ∧ Below w.heap.size w wr) (fun i _ => n - (intOf i).toNat)
  case atStart => exact ⟨0, Nat.zero_le _, rfl, Below.refl _ _⟩
  case round =>
    obtain ⟨k, hk, rfl, hbw⟩ := hrel
    have HBW := Lib.hid hbw
    by_cases hlt : k < n
    · have hkp : k < ps.length := by rw [← HN.out]; exact hlt
      obtain ⟨ad, rfl, _, hc⟩ := (HA.out.keep hbw (Nat.le_refl _)) k hkp
      obtain ⟨bd, rfl, _, hd⟩ := (HB.out.keep hbw (Nat.le_refl _)) k hkp
      obtain ⟨s0, s1, s2, s3⟩ := pr_cells (a := ad.add (k * 4)) hc
      obtain ⟨u0, u1, u2, u3⟩ := pr_cells (a := bd.add (k * 4)) hd
      have k0 : (0 : Int) ≤ (k : Int) := by omega
      have kn : (k : Int) < (n : Int) := by omega
      clear hbw hc hd
      generalize ps[k] = p at *
      have hq := pr_eq p
      go_wp2_with fail
      go_quiet (fail)
      go_wp2_with fail
      go_roundw
      case rel => exact ⟨k + 1, by omega, by go_num, below_drewN HBW.out _⟩
      case measure => simp [intOf]; omega
    · have hkn : k = n := by omega
      subst hkn
      clear hlt hbw
      go_wp2_with fail
      go_ret
      exact ⟨rfl, HBW.out⟩
theorem two_rc (w : World) (x z : Rc) (v u : Value) : RcB ((w.alloc (.cells (rcC x v) 77)).alloc (.cells (rcC z u) 77)) w.heap.size x v ∧ RcB ((w.alloc (.cells (rcC x v) 77)).alloc (.cells (rcC z u) 77)) (w.heap.size + 1) z u ∧ Below w.heap.size w ((w.alloc (.cells (rcC x v) 77)).alloc (.cells (rcC z u) 77)) := by
  refine ⟨(Blk.new w _ _).alloc _, ?_, ((Below.refl _ _).alloc (Nat.le_refl _) _).alloc (by simp) _⟩
  have := Blk.new (w.alloc (.cells (rcC x v) 77)) (rcC z u) 77
  simpa using this
set_option maxRecDepth 100000 in
set_option maxHeartbeats 4000000 in
theorem rsame (r : Rc) (A B : Option Addr) (n ca cb : Nat) (hn : n = r.ps.length) (hl : n ≤ 1000000) (w : World) (ha : AtE EP w w.heap.size A r.ps) (hb : AtE EP w w.heap.size B r.ps) :
    Calls Tryz.prog 31 #[rcV r (.slice A n ca), rcV r (.slice B n cb)] w fun e w' => e = .returned (.bool true) ∧ Below w.heap.size w w' := by
  obtain ⟨x1, x2, hb0⟩ := two_rc w r r (.slice A n ca) (.slice B n cb)
  have HS := Lib.hid (rsamePairs A B n ca cb r.ps hn hl _ (ha.below hb0) (hb.below hb0))
  have HB0 := Lib.hid hb0
  have c0 := x1.cell 0
  have c1 := x1.cell 1
  have c2 := x1.cell 2
  have c3 := x1.cell 3
  have d0 := x2.cell 0
  have d1 := x2.cell 1
  have d2 := x2.cell 2
  have d3 := x2.cell 3
  have t1 : (r.ty == r.ty) = true := by simp
  have t2 : (r.ti == r.ti) = true := by simp
  have t3 : (r.se == r.se) = true := by simp
  clear x1 x2 hb0 ha hb hn
  go_enter Tryz.func31, Tryz.ntmps31
  go_wp2_with fail
  refine HS.out.mono ?_
  rintro e w1 ⟨rfl, hb1⟩
  have HB1 := Lib.hid (below_then HB0.out hb1)
  clear hb1
  go_wp2_with fail
  go_ret
  exact ⟨rfl, HB1.out⟩
theorem own_empty (w : World) : OwnE EP (w.alloc (.cells #[] 79)) w.heap.size (.slice (some ⟨w.heap.size, 0, none⟩) 0 0) [] :=
  ⟨rfl, .inr ⟨w.heap.size, 0, #[], rfl, Nat.le_refl _, heap_alloc_new w _, Nat.le_refl _, by unfold maxLen; omega, rfl, rfl⟩⟩
theorem nil_no (ad : Addr) (n c : Nat) (w : World) : (binOp .eql 75 (.slice (some ad) n c) (.slice none 0 0)).run Tryz.prog w = .ok (.bool false) w := by show _ = _; kernel_rfl
theorem nil_yes (n c : Nat) (w : World) : (binOp .eql 75 (.slice none n c) (.slice none 0 0)).run Tryz.prog w = .ok (.bool true) w := by show _ = _; kernel_rfl
def ClonePost (n : Nat) (ps : List Pr) (w : World) (e : Ending) (w' : World) : Prop := ∃ (A : Option Addr) (c : Nat), e = .returned (.slice A n c) ∧ OwnE EP w' w.heap.size (.slice A n c) ps ∧ Below w.heap.size w w'
theorem clone_low {w w' : World} {o : Obj} (h : (w.alloc o).grownBy w' (Value.slice (some ⟨w.heap.size, 0, none⟩) 0 0).ownBlock) : Below w.heap.size w w' :=
  ((Below.refl w.heap.size w).alloc (Nat.le_refl _) o).trans ⟨h.os, h.tape, h.output, h.size, fun i hi => h.block i (by simp; omega) (fun e => by injection e with e; simp at e; omega)⟩
set_option maxRecDepth 100000 in
set_option maxHeartbeats 4000000 in
theorem vclone (A : Option Addr) (n c : Nat) (ps : List Pr) (hn : n = ps.length) (hl : n ≤ 1000) (w : World) (h : AtE EP w w.heap.size A ps) :
    Calls Tryz.prog 66 #[.slice A n c] w (ClonePost n ps w) := by
  subst hn
  rcases A with _ | ad
  · have hM : ps = [] := by
      cases ps with
      | nil => rfl
      | cons s r => obtain ⟨ad, e, _⟩ := h 0 (by simp); cases e
    subst hM
    clear h hl
    have hq := nil_yes 0 c
    go_enter Tryz.func66, Tryz.ntmps66
    go_wp2_with fail
    go_ret
    exact ⟨none, 0, rfl, OwnE.nil _ _, Below.refl _ _⟩
  · have HB := Lib.hid (show Below w.heap.size w (w.alloc (.cells #[] 79)) from (Below.refl _ _).alloc (Nat.le_refl _) _)
    have HA := Lib.hid (h.below HB.out)
    clear h
    have hq := nil_no ad ps.length c
    go_enter Tryz.func66, Tryz.ntmps66
    go_wp2_with (refine wpList_append_el EP rfl (.tmp 5) (.tmp 6) rfl w.heap.size (.slice (some ⟨w.heap.size, 0, none⟩) 0 0) [] rfl (own_empty w) _ (some ad) ps.length c ps rfl rfl HA.out (by simp; omega) (by simp) ?_; intro v6 w6 ho6 hg6 hat6)
    obtain ⟨A', c', e6, _⟩ := OwnE.at (show OwnE EP w6 w.heap.size v6 ps from ho6)
    subst e6
    go_ret
    exact ⟨A', c', rfl, ho6, clone_low hg6⟩
end Go.Proofs.YtollifnnpihfdaaGreatDoor
/- Stamp of the program. -/
namespace Go.Proofs.YtollifnnpihfdaaGreatDoor
open Go.RowKit
/-- Records that can be read. -/
structure RecsAt (w : World) (A : Option Addr) (L : List Rm) : Prop where
  at' : AtE ER w w.heap.size A L
  ps : ∀ x ∈ L, AtE EP w w.heap.size x.A x.r.ps
  ln : ∀ x ∈ L, x.r.ps.length ≤ 1000
theorem RecsAt.below {w w' : World} {A : Option Addr} {L : List Rm} (h : RecsAt w A L) (hb : Below w.heap.size w w') : RecsAt w' A L := ⟨h.at'.below hb, fun x hx => (h.ps x hx).below hb, h.ln⟩
/-- What Stamp keeps. -/
structure SmSt (w wr : World) (s : Int) (L : List Rm) (k : Nat) (v : Value) (M : List Rm) : Prop where
  own : OwnE ER wr w.heap.size v M
  rs : M.map (·.r) = (L.take k).map fun x => { x.r with se := s }
  ps : ∀ x ∈ M, OwnE EP wr w.heap.size x.sl x.r.ps ∧ ∀ b, x.sl.ownBlock = some b → v.ownBlock ≠ some b
  low : Below w.heap.size w wr
theorem SmSt.below {w wr w' : World} {s : Int} {L M : List Rm} {k : Nat} {v : Value} (h : SmSt w wr s L k v M) (hb : Below wr.heap.size wr w') : SmSt w w' s L k v M :=
  ⟨h.own.below hb, h.rs, fun x hx => ⟨(h.ps x hx).1.below hb, (h.ps x hx).2⟩, below_then h.low hb⟩
theorem SmSt.len {w wr : World} {s : Int} {L M : List Rm} {k : Nat} {v : Value} (h : SmSt w wr s L k v M) (hk : k ≤ L.length) : M.length = k := by
  have := congrArg List.length h.rs
  rw [List.length_map, List.length_map, List.length_take] at this
  omega
/-- What Stamp leaves. -/
def StampPost (s : Int) (n : Nat) (L : List Rm) (w : World) (e : Ending) (w' : World) : Prop :=
  ∃ (A : Option Addr) (c : Nat) (M : List Rm), e = .returned (.slice A n c) ∧ M.length = n ∧ RecsAt w' A M ∧ M.map (·.r) = (L.map fun x => { x.r with se := s }) ∧ Below w.heap.size w w'
theorem stamp_ln {s : Int} {L M : List Rm} (h : M.map (·.r) = (L.map fun x => ({ x.r with se := s } : Rc))) (hl : ∀ x ∈ L, x.r.ps.length ≤ 1000) : ∀ x ∈ M, x.r.ps.length ≤ 1000 := fun x hx => by
  have : x.r ∈ M.map (·.r) := List.mem_map.2 ⟨x, hx, rfl⟩
  rw [h] at this
  obtain ⟨y, hy, e⟩ := List.mem_map.1 this
  rw [← e]; exact hl y hy
theorem SmSt.app {w w2 w' : World} {s : Int} {L M : List Rm} {k : Nat} {v v' : Value} {x y : Rm} (h : SmSt w w2 s L k v M) (hk : L[k]? = some x) (hy : y.r = { x.r with se := s }) (hp : OwnE EP w2 w.heap.size y.sl y.r.ps) (hf : ∀ b, y.sl.ownBlock = some b → v.ownBlock ≠ some b)
    (ho : OwnE ER w' w.heap.size v' (M ++ [y])) (hg : w2.grownBy w' v.ownBlock) (hat : v'.ownBlock = v.ownBlock ∨ v'.ownBlock = some w2.heap.size) : SmSt w w' s L (k + 1) v' (M ++ [y]) := by
  have hlow : Below w.heap.size w2 w' := ⟨hg.os, hg.tape, hg.output, hg.size, fun i hi => hg.block i (by have := h.low.size; omega) (fun e => by have := h.own.ge i e.symm; omega)⟩
  have hps : ∀ z : Rm, OwnE EP w2 w.heap.size z.sl z.r.ps → (∀ b, z.sl.ownBlock = some b → v.ownBlock ≠ some b) → OwnE EP w' w.heap.size z.sl z.r.ps ∧ ∀ b, z.sl.ownBlock = some b → v'.ownBlock ≠ some b := fun z h1 h2 =>
    ⟨h1.far hg h2, fun b hb => by
      rcases hat with e | e
      · rw [e]; exact h2 b hb
      · rw [e]; intro e2; injection e2 with e2; have := h1.lt b hb; omega⟩
  refine ⟨ho, ?_, fun z hz => ?_, h.low.trans hlow⟩
  · obtain ⟨hlt, he⟩ := List.getElem?_eq_some_iff.1 hk
    rw [List.map_append, h.rs, List.take_succ_eq_append_getElem hlt, List.map_append, he]
    simp [hy]
  · rcases List.mem_append.1 hz with hz | hz
    · exact hps z (h.ps z hz).1 (h.ps z hz).2
    · rw [List.mem_singleton.1 hz]; exact hps y hp hf
theorem SmSt.cell {w wr : World} {s : Int} {L M : List Rm} {k g : Nat} {v : Value} (h : SmSt w wr s L k v M) (hg : w.heap.size ≤ g) (hv : v.ownBlock ≠ some g) (hx : ∀ x ∈ M, x.sl.ownBlock ≠ some g) (i : Nat) (u : Value) : SmSt w (wr.setCell ⟨g, i, none⟩ u) s L k v M :=
  ⟨h.own.farCell hv _, h.rs, fun x hm => ⟨(h.ps x hm).1.farCell (hx x hm) _, (h.ps x hm).2⟩, h.low.setCell (by show w.heap.size ≤ g; omega) _⟩
set_option maxRecDepth 100000 in
set_option maxHeartbeats 8000000 in
theorem vstamp (A : Option Addr) (n c : Nat) (L : List Rm) (s : Int) (hn : n = L.length) (hl : n ≤ 1000) (w : World) (h : RecsAt w A L) :
    Calls Tryz.prog 27 #[.slice A n c, .int .i64 s] w (StampPost s n L w) := by
  have H := Lib.hid h
  have HN := Lib.hid hn
  clear h hn
  go_enter Tryz.func27, Tryz.ntmps27
  go_wp2_with fail
  go_loopw [5, 10] (fun v i wr => ∃ (k : Nat) (M : List Rm), k ≤ n ∧ i = .int .i64 (k : Int) ∧ SmSt w wr s L k v M) (fun _ i _ => n - (intOf i).toNat)
  case atStart => exact ⟨0, [], Nat.zero_le _, rfl, OwnE.nil _ _, rfl, fun x hx => (by cases hx), Below.refl _ _⟩
  case round =>
    obtain ⟨k, M, hk, rfl, hst⟩ := hrel
    generalize u5 = v at *
    have ST := Lib.hid hst
    have hML := hst.len (by have := HN.out; omega)
    by_cases hlt : k < n
    · have hkL : k < L.length := by rw [← HN.out]; exact hlt
      have hr := H.out.below (w' := wr) (by have := hst.low; exact this)
      obtain ⟨ad, rfl, hbl, hc⟩ := hr.at' k hkL
      obtain ⟨s0, s1, s2, s3⟩ := rc_cells (a := ad.add (k * 4)) hc
      have HX := Lib.hid (List.getElem?_eq_getElem hkL)
      have HPX := Lib.hid (hr.ps _ (List.getElem_mem hkL))
      have HLX := Lib.hid (hr.ln _ (List.getElem_mem hkL))
      clear hc hr hst
      generalize L[k] = x at *
      have k0 : (0 : Int) ≤ (k : Int) := by omega
      have kn : (k : Int) < (n : Int) := by omega
      have ST1 := Lib.hid (ST.out.below ((Below.refl wr.heap.size wr).alloc (Nat.le_refl _) (.cells (rcC x.r x.sl) 77)))
      have X1 := Lib.hid (Blk.new wr (rcC x.r x.sl) 77)
      have HP1 := Lib.hid (HPX.out.below ((Below.refl wr.heap.size wr).alloc (Nat.le_refl _) (.cells (rcC x.r x.sl) 77)))
      have hv0 : v.ownBlock ≠ some wr.heap.size := fun e => by have := ST.out.own.lt _ e; omega
      have hx0 : ∀ x ∈ M, x.sl.ownBlock ≠ some wr.heap.size := fun x hx e => by have := (ST.out.ps x hx).1.lt _ e; omega
      have hwr : w.heap.size ≤ wr.heap.size := ST.out.low.size
      go_wp2_with fail
      refine (vclone x.A x.r.ps.length x.c x.r.ps rfl HLX.out _ HP1.out).mono ?_
      rintro e w1 ⟨A', c', rfl, hoc, hb1⟩
      have ST2 := ST1.out.below hb1
      have X2 := Blk.below X1.out hb1
      have c3 := X2.cell 3
      have c2 := X2.cell 2
      have f3 := X2.free 3
      have f2 := X2.free 2
      have X3 := Lib.hid (show RcB ((w1.setCell ⟨wr.heap.size, 3, none⟩ (.slice A' x.r.ps.length c')).setCell ⟨wr.heap.size, 2, none⟩ (.int .i64 s)) wr.heap.size { x.r with se := s } (.slice A' x.r.ps.length c') from Blk.put (Blk.put X2 3 (.slice A' x.r.ps.length c')) 2 (.int .i64 s))
      have ST3 := Lib.hid ((ST2.cell hwr hv0 hx0 3 (.slice A' x.r.ps.length c')).cell hwr hv0 hx0 2 (.int .i64 s))
      have hne : (Value.slice A' x.r.ps.length c').ownBlock ≠ some wr.heap.size := fun e => by have := hoc.ge _ e; simp at this; omega
      have OC := Lib.hid (((hoc.farCell (i := 3) hne (.slice A' x.r.ps.length c')).farCell (i := 2) hne (.int .i64 s)).low (base := w.heap.size) (by simp; omega))
      have HVF := Lib.hid (show ∀ b, (Value.slice A' x.r.ps.length c').ownBlock = some b → v.ownBlock ≠ some b from fun b hb e => by have := hoc.ge _ hb; have := ST.out.own.lt _ e; simp at *; omega)
      clear ST1 X1 HP1 hoc hb1 ST2 X2 s0 s1 s2 s3 hbl hv0 hx0 hne
      go_upto_region 7 with (fail)
      clear c3 c2 f3 f2
      generalize (w1.setCell ⟨wr.heap.size, 3, none⟩ (.slice A' x.r.ps.length c')).setCell ⟨wr.heap.size, 2, none⟩ (.int .i64 s) = w2 at *
      have ST4 := Lib.hid (ST3.out.below ((Below.refl w2.heap.size w2).alloc (Nat.le_refl _) (.cells (rcC { x.r with se := s } (.slice A' x.r.ps.length c')) 77)))
      have OC4 := Lib.hid (OC.out.alloc (.cells (rcC { x.r with se := s } (.slice A' x.r.ps.length c')) 77))
      have RW := Lib.hid (row_newE ER w2 (rcC { x.r with se := s } (.slice A' x.r.ps.length c')) 77 ⟨{ x.r with se := s }, A', c'⟩ rfl (Nat.lt_succ_self w2.heap.size))
      go_wp2_with (first | ((with_reducible refine load_blk ?_ 77 (.tmp 7) ?_ X3.out ?_ _ Tryz.underlying77 ?_ ?_ ?_); (iterate 4 rfl); exact rc_sz _ _) | (refine wpList_append_el ER rfl (.tmp 20) (.tmp 22) rfl w.heap.size v M rfl ST4.out.own (w2.heap.size + 1) (some ⟨w2.heap.size, 0, none⟩) 1 1 [⟨{ x.r with se := s }, A', c'⟩] rfl rfl RW.out (by simp; omega) (by have := ST4.out.low.size; exact this) ?_; intro v6 w6 ho6 hg6 hat6))
      have ST5 := Lib.hid (ST4.out.app (y := ⟨{ x.r with se := s }, A', c'⟩) HX.out rfl OC4.out HVF.out ho6 hg6 hat6)
      clear ho6 hg6 hat6
      go_wp2_with fail
      go_roundw
      case rel => exact ⟨k + 1, M ++ [⟨{ x.r with se := s }, A', c'⟩], by omega, by go_num, ST5.out⟩
      case measure => simp [intOf]; omega
    · have hkn : k = n := by omega
      subst hkn
      have d1 : ¬ (k : Int) < (k : Int) := by omega
      obtain ⟨T, c', hf, hT⟩ := ST.out.own.at
      subst hf
      have HT := Lib.hid (show RecsAt wr T M ∧ M.map (·.r) = L.map (fun x => ({ x.r with se := s } : Rc)) from by
        have hrs := ST.out.rs
        rw [show k = L.length from HN.out, List.take_length] at hrs
        refine ⟨⟨hT, fun x hx => ?_, stamp_ln hrs H.out.ln⟩, hrs⟩
        obtain ⟨T', c2, e2, ht2⟩ := (ST.out.ps x hx).1.at
        injection e2 with e2
        rw [e2]; exact ht2)
      have HLM := Lib.hid hML
      rw [show (Value.slice T M.length c') = Value.slice T k c' by rw [hML]]
      clear hML hst
      go_wp2_with fail
      go_ret
      exact ⟨T, c', M, rfl, HLM.out, HT.out.1, HT.out.2, ST.out.low⟩
end Go.Proofs.YtollifnnpihfdaaGreatDoor

/- Texts of one proof, laid together. -/
import Derived.Test.YtbbihfafkpniiaaGreatDoorC10
import Derived.Test.YtbbihfafkpniiaaGreatDoorC05
import Derived.Test.YtbbihfafkpniiaaGreatDoorC03
import Derived.Test.YtbbihfafkpniiaaGreatDoorC02
import Derived.Test.YtbbihfafkpniiaaGreatDoorC08
import Derived.Test.YtbbihfafkpniiaaGreatDoorC01
import Derived.Deep.DrawnRows
import Derived.Test.YtbbihfafkpniiaaGreatDoorProg
import Derived.Lib.Hide
import Derived.WalkSpells
import Derived.LoopTactic
import Derived.Outline
import Derived.RegionTactic
import Derived.IntWalk
import Derived.Deep.QuietTactic
import Derived.BigQuiet
import Derived.Test.YtbbihfafkpniiaaGreatDoorC04
import Derived.Maps.AppendAt
/- Contexts and items as values; compare, number and atExit of the program; number, has, holds of the reference. -/
namespace Go.Proofs.YtbbihfafkpniiaaGreatDoor
open Go.RowKit
/-- A slice's three parts. -/
structure Sl where
  A : Option Addr
  n : Nat
  c : Nat
abbrev Sl.v (s : Sl) : Value := .slice s.A s.n s.c
/-- What of a context no test reads. -/
structure CRest where
  d : Int
  i : Int
  o : Sl
  u : Bool
  n : Int
  ps : Sl
  gs : Sl
/-- What of an item no test reads. -/
structure IRest where
  gv : ByteArray
  pa : ByteArray
  dd : Int
  di : Int
  nm : ByteArray
  ro : Int
  mo : Int
  pe : Int
def ctxC (c : Ctx) (r : CRest) (it : Value) : Array Value := #[.int .i64 c.ph, .int .i64 (c.p 0), .int .i64 (c.p 1), .int .i64 (c.p 2), .int .i64 (c.p 3), .int .i64 (c.p 4), .int .i64 (c.p 5), .int .i64 (c.p 6), .int .i64 (c.p 7), .int .i64 r.d, .int .i64 r.i, .string c.comm, .string c.exe, r.o.v, .bool r.u, .int .i64 r.n, .int .i64 (c.a 0), .int .i64 (c.a 1), .int .i64 (c.a 2), .int .i64 (c.a 3), r.ps.v, r.gs.v, .int .i64 c.ex, it, .int .i64 c.ty]
def itemC (i : Itm) (r : IRest) : Array Value := #[.string r.gv, .string r.pa, .int .i64 r.dd, .int .i64 r.di, .string r.nm, .int .i64 i.dev, .int .i64 i.ino, .int .i64 r.ro, .int .i64 i.kind, .int .i64 r.mo, .int .i64 i.uid, .int .i64 i.gid, .int .i64 r.pe]
abbrev ctxV (c : Ctx) (r : CRest) (it : Value) : Value := .agg (ctxC c r it)
abbrev itemV (i : Itm) (r : IRest) : Value := .agg (itemC i r)
section
variable {w : World} {g : Nat} {c : Ctx} {r : CRest} {it : Value} {i : Itm} {ir : IRest}
abbrev TestB (w : World) (g : Nat) (fd op nu : Int) (tx : ByteArray) (ot : Int) : Prop := Blk w g 40 (testC fd op nu tx ot)
theorem TestB.c0 {fd op nu : Int} {tx : ByteArray} {ot : Int} (h : TestB w g fd op nu tx ot) : w.cell? ⟨g, 0, none⟩ = some (.int .i64 fd) := h.cell 0
theorem TestB.c1 {fd op nu : Int} {tx : ByteArray} {ot : Int} (h : TestB w g fd op nu tx ot) : w.cell? ⟨g, 1, none⟩ = some (.int .i64 op) := h.cell 1
theorem TestB.c2 {fd op nu : Int} {tx : ByteArray} {ot : Int} (h : TestB w g fd op nu tx ot) : w.cell? ⟨g, 2, none⟩ = some (.int .i64 nu) := h.cell 2
theorem TestB.c3 {fd op nu : Int} {tx : ByteArray} {ot : Int} (h : TestB w g fd op nu tx ot) : w.cell? ⟨g, 3, none⟩ = some (.string tx) := h.cell 3
theorem TestB.c4 {fd op nu : Int} {tx : ByteArray} {ot : Int} (h : TestB w g fd op nu tx ot) : w.cell? ⟨g, 4, none⟩ = some (.int .i64 ot) := h.cell 4
theorem test_sz (fd op nu : Int) (tx : ByteArray) (ot : Int) : (Tryz.prog.info? 40).map (·.size) = some (testC fd op nu tx ot).size := by show _ = some 5; kernel_rfl
end
attribute [local irreducible] ctxC itemC
def numP (c : Ctx) (i : Itm) (f : Int) : Int := if hasF c f = true then valF c i f else 0
theorem numP_yes {c : Ctx} {i : Itm} {f : Int} (h : hasF c f = true) : numP c i f = valF c i f := if_pos h
theorem numP_no {c : Ctx} {i : Itm} {f : Int} (h : hasF c f = false) : numP c i f = 0 := if_neg (by rw [h]; decide)
theorem ret_t {x y : Int} {a b : Bool} (h : x = y) (k : a = b) : Ending.returned (.tuple #[.int .i64 x, .bool a]) = Ending.returned (.tuple #[.int .i64 y, .bool b]) := by rw [h, k]
theorem hasF_low {c : Ctx} {f : Int} (h : f ≤ 14) : hasF c f = true := by unfold hasF; rw [if_neg (by omega)]; simp; omega
theorem hasF_exit {c : Ctx} {f : Int} (h : 15 ≤ f ∧ f ≤ 21) : hasF c f = decide (c.ph = 2) := if_pos h
theorem hasF_type (c : Ctx) : hasF c 22 = decide (c.ty ≠ 0) := by unfold hasF; rw [if_neg (by omega)]; simp
end Go.Proofs.YtbbihfafkpniiaaGreatDoor
/- What the walks read of the variables; Atoi. -/
namespace Go.Proofs.YtbbihfafkpniiaaGreatDoor
open Go.RowKit
def Mx (w : World) : Prop := ∃ m, w.cell? ⟨6, 0, none⟩ = some (.int .i64 m)
def ErrV (w : World) (g : Nat) : Prop := ∃ ev, w.cell? ⟨g, 0, none⟩ = some ev ∧ (ev = .nilIface ∨ ∃ te pe, ev = .iface te pe)
structure Env (w : World) : Prop where
  tab : Tab w
  pow : Pow w
  mx : Mx w
  es : ErrV w 12
  er : ErrV w 13
theorem Mx.below {w w' : World} (h : Mx w) (hb : Below w.heap.size w w') : Mx w' := by
  obtain ⟨m, hm⟩ := h
  exact ⟨m, (hb.cell (block_lt_of_cell hm)).trans hm⟩
theorem ErrV.below {w w' : World} {g : Nat} (h : ErrV w g) (hb : Below w.heap.size w w') : ErrV w' g := by
  obtain ⟨ev, hm, h⟩ := h
  exact ⟨ev, (hb.cell (block_lt_of_cell hm)).trans hm, h⟩
theorem Env.below {w w' : World} (h : Env w) (hb : Below w.heap.size w w') : Env w' :=
  ⟨h.tab.below hb (Nat.le_refl _), h.pow.below hb (Nat.le_refl _), h.mx.below hb, h.es.below hb, h.er.below hb⟩
theorem vatoi_ok (s : ByteArray) (hs : s.size ≤ 1000000) (v : Int) (h : Lib.atoiAll s.data.toList = .ok v) (w : World) :
    Calls Tryz.prog 156 #[.string s] w fun e w' => e = .returned (.tuple #[.int .i64 v, .nilIface]) ∧ Below w.heap.size w w' :=
  (Tryz.strconv_Atoi_ok s (by omega) v h w).mono fun _ _ hh => ⟨hh.1, by
    rcases hh.2 with rfl | ⟨t, rfl⟩
    · exact Below.refl _ _
    · exact Joins.below_bytesWorld _ _ _ _ (Nat.le_refl _)⟩
def AtoiBad (w : World) (e : Ending) (w' : World) : Prop := ∃ (v : Int) (N : Nat), e = .returned (.tuple #[.int .i64 v, .iface 165 (.pointer (some ⟨N, 0, none⟩))]) ∧ Below w.heap.size w w'
theorem vatoi_bad (s : ByteArray) (hs : s.size ≤ 1000000) (h : ∀ v, Lib.atoiAll s.data.toList ≠ .ok v) (w : World) (he : Env w) :
    Calls Tryz.prog 156 #[.string s] w (AtoiBad w) := by
  cases ha : Lib.atoiAll s.data.toList
  · exact absurd ha (h _)
  · obtain ⟨ev, h1, h2⟩ := he.es
    exact (Any.strconv_Atoi_syntax Tryz.laysC172 s (by omega) ha ev w h1 h2).mono fun _ _ hh => by
      obtain ⟨N, h1, _, _, h4⟩ := hh
      exact ⟨_, N, h1, h4⟩
  · obtain ⟨ev, h1, h2⟩ := he.er
    exact (Tryz.strconv_Atoi_range s (by omega) ha ev w h1 h2).mono fun _ _ hh => by
      obtain ⟨N, h1, _, _, h4⟩ := hh
      exact ⟨_, N, h1, h4⟩
end Go.Proofs.YtbbihfafkpniiaaGreatDoor
/- The source of numbers of package kauditmake: New and N. What is said of N: a number from 0 to n - 1, and the source stays one. -/
namespace Go.Proofs.YtbbihfafkpniiaaGreatDoor
open Go.RowKit
/-- Block g holds a source whose list lies below base; it has handed out at most b numbers. -/
def SrcOk (w : World) (base g : Nat) (b : Int) : Prop := base ≤ g ∧ ∃ (A : Option Addr) (n c : Nat) (a : Int), w.heap[g]? = some (.cells #[.slice A n c, .int .i64 a] 57 (0, 0)) ∧ 0 ≤ a ∧ a ≤ b ∧ (n : Int) ≤ 9223372036854775807 ∧
  ∀ k, k < n → ∃ (ad : Addr) (z : Int), A = some ad ∧ ad.block < base ∧ w.cell? (ad.add k) = some (.int .i64 z) ∧ -9223372036854775808 ≤ z ∧ z ≤ 9223372036854775807
theorem src_lt {w : World} {base g : Nat} {b : Int} (h : SrcOk w base g b) : g < w.heap.size := by
  obtain ⟨_, A, n, c, a, hg, _⟩ := h
  exact (Array.getElem?_eq_some_iff.1 hg).1
theorem SrcOk.more {w : World} {base g : Nat} {b b' : Int} (h : SrcOk w base g b) (hb : b ≤ b') : SrcOk w base g b' := by
  obtain ⟨h0, A, n, c, a, hg, ha, hab, hn, hl⟩ := h
  exact ⟨h0, A, n, c, a, hg, ha, by omega, hn, hl⟩
theorem block_add (a : Addr) (n : Nat) : (a.add n).block = a.block := by unfold Addr.add; split <;> rfl
/-- The source is kept where its block and the blocks below base are. -/
theorem SrcOk.keep {w w' : World} {base g : Nat} {b : Int} (h : SrcOk w base g b) (hg' : w'.heap[g]? = w.heap[g]?) (hk : ∀ i, i < base → w'.heap[i]? = w.heap[i]?) : SrcOk w' base g b := by
  obtain ⟨h0, A, n, c, a, hg, ha, hab, hn, hl⟩ := h
  refine ⟨h0, A, n, c, a, hg'.trans hg, ha, hab, hn, fun k hk' => ?_⟩
  obtain ⟨ad, z, e, hb, hc, hz⟩ := hl k hk'
  exact ⟨ad, z, e, hb, (World.cell?_of_block (by rw [block_add]; exact hk _ hb)).trans hc, hz⟩
theorem SrcOk.below {w w' : World} {base g : Nat} {b : Int} (h : SrcOk w base g b) (hb : Below w.heap.size w w') : SrcOk w' base g b :=
  h.keep (hb.block g (src_lt h)) fun i hi => hb.block i (by have := src_lt h; have := h.1; omega)
theorem SrcOk.grown {w w' : World} {base g : Nat} {b : Int} (h : SrcOk w base g b) {row : Option Nat} (hg : w.grownBy w' row) (hr : ∀ r, row = some r → base ≤ r ∧ r ≠ g) : SrcOk w' base g b :=
  h.keep (hg.block g (src_lt h) (fun e => (hr g e.symm).2 rfl)) fun i hi => hg.block i (by have := src_lt h; have := h.1; omega) (fun e => by have := (hr i e.symm).1; omega)
theorem SrcOk.alloc {w : World} {base g : Nat} {b : Int} (h : SrcOk w base g b) (o : Obj) : SrcOk (w.alloc o) base g b := h.below ((Below.refl _ _).alloc (Nat.le_refl _) o)
theorem SrcOk.drewN {w : World} {base g : Nat} {b : Int} (h : SrcOk w base g b) (n : Nat) : SrcOk (w.drewN n) base g b := h
theorem SrcOk.drew {w : World} {base g : Nat} {b : Int} (h : SrcOk w base g b) : SrcOk w.drew base g b := h
theorem SrcOk.setCell {w : World} {base g : Nat} {b : Int} (h : SrcOk w base g b) {p : Addr} (hp : base ≤ p.block) (hne : p.block ≠ g) (u : Value) : SrcOk (w.setCell p u) base g b :=
  h.keep (Below.heap_setCell w p u g (Ne.symm hne)) fun i hi => Below.heap_setCell w p u i (by omega)
/-- Only block g, and what is new, has changed: the steps. -/
theorem only_drewN {a w : World} {row : Option Nat} (h : a.grownBy w row) (n : Nat) : a.grownBy (w.drewN n) row := ⟨h.os, h.tape, h.output, h.size, h.block⟩
theorem only_alloc {a w : World} {row : Option Nat} (h : a.grownBy w row) (o : Obj) : a.grownBy (w.alloc o) row :=
  ⟨h.os, h.tape, h.output, Nat.le_trans h.size (by simp), fun i hi hne => (Below.heap_alloc w o i (Nat.lt_of_lt_of_le hi h.size)).trans (h.block i hi hne)⟩
theorem only_setCell {a w : World} {g : Nat} (h : a.grownBy w (some g)) {p : Addr} (hp : p.block = g ∨ a.heap.size ≤ p.block) (u : Value) : a.grownBy (w.setCell p u) (some g) :=
  ⟨h.os, h.tape, h.output, by simpa [World.setCell] using h.size, fun i hi hne => (Below.heap_setCell w p u i (fun e => by
    rcases hp with hp | hp
    · exact hne (by rw [e, hp])
    · omega)).trans (h.block i hi hne)⟩
theorem only_below {a w w' : World} {row : Option Nat} (h : a.grownBy w row) (hb : Below w.heap.size w w') : a.grownBy w' row :=
  ⟨hb.os.trans h.os, hb.tape.trans h.tape, hb.output.trans h.output, Nat.le_trans h.size hb.size, fun i hi hne => (hb.block i (Nat.lt_of_lt_of_le hi h.size)).trans (h.block i hi hne)⟩
theorem below_only {B : Nat} {a w w' : World} {g : Nat} (h : Below B a w) (hg : w.grownBy w' (some g)) (hB : B ≤ w.heap.size) (hBg : B ≤ g) : Below B a w' :=
  h.grown hg hB fun k hk => by injection hk with hk; omega
def NPost (w : World) (base g : Nat) (b n : Int) (e : Ending) (w' : World) : Prop := ∃ x : Int, e = .returned (.int .i64 x) ∧ 0 ≤ x ∧ x < n ∧ SrcOk w' base g (b + 1) ∧ w.grownBy w' (some g)
theorem src_set {w : World} {base g : Nat} {b : Int} (h0 : base ≤ g) {A : Option Addr} {n c : Nat} {a : Int} (hg : w.heap[g]? = some (.cells #[.slice A n c, .int .i64 a] 57 (0, 0))) (ha : 0 ≤ a) (hab : a ≤ b) (hn : (n : Int) ≤ 9223372036854775807)
    (hl : ∀ k, k < n → ∃ (ad : Addr) (z : Int), A = some ad ∧ ad.block < base ∧ w.cell? (ad.add k) = some (.int .i64 z) ∧ -9223372036854775808 ≤ z ∧ z ≤ 9223372036854775807) :
    SrcOk (w.setCell ⟨g, 1, none⟩ (.int .i64 (a + 1))) base g (b + 1) ∧ w.grownBy (w.setCell ⟨g, 1, none⟩ (.int .i64 (a + 1))) (some g) := by
  refine ⟨⟨h0, A, n, c, a + 1, heap_setCell_same w g 1 #[.slice A n c, .int .i64 a] _ (.int .i64 (a + 1)) hg, by omega, by omega, hn, fun k hk => ?_⟩, only_setCell (World.grownBy.refl w _) (.inl rfl) _⟩
  obtain ⟨ad, z, e, hb, hc, hz⟩ := hl k hk
  exact ⟨ad, z, e, hb, (World.cell?_of_block (by rw [block_add]; exact Below.heap_setCell w ⟨g, 1, none⟩ _ _ (by show ad.block ≠ g; omega))).trans hc, hz⟩
theorem tmod_bd (z n : Int) (hn : 1 ≤ n) : -n < z.tmod n ∧ z.tmod n < n := by
  have h1 := Int.tmod_lt_of_pos z (show 0 < n by omega)
  have h2 : -n < z.tmod n := by
    have := Int.tmod_lt_of_pos (-z) (show 0 < n by omega)
    rw [Int.neg_tmod] at this; omega
  exact ⟨h2, h1⟩
set_option maxHeartbeats 1000000 in
theorem src_n (w : World) (base g : Nat) (b n : Int) (h : SrcOk w base g b) (hb : b ≤ 1000000000000000) (hn1 : 1 ≤ n) (hn2 : n ≤ 1000000000000000) :
    Calls Tryz.prog 15 #[.pointer (some ⟨g, 0, none⟩), .int .i64 n] w (NPost w base g b n) := by
  obtain ⟨h0, A, ln, c, a, hg, ha, hab, hln, hl⟩ := h
  have HSET := Lib.hid (src_set h0 hg ha hab hln hl)
  have q0 : w.cell? ⟨g, 0, none⟩ = some (.slice A ln c) := cell_of_row w g 0 _ _ (0, 0) hg
  have q1 : w.cell? ⟨g, 1, none⟩ = some (.int .i64 a) := cell_of_row w g 1 _ _ (0, 0) hg
  have qf : w.frozen? ⟨g, 1, none⟩ = false := frozen_of_row w g 1 _ _ hg
  have HG := Lib.hid (show (w.setCell ⟨g, 1, none⟩ (.int .i64 (a + 1))).heap[g]? = some (.cells #[.slice A ln c, .int .i64 (a + 1)] 57 (0, 0)) from heap_setCell_same w g 1 #[.slice A ln c, .int .i64 a] _ (.int .i64 (a + 1)) hg)
  have hkb : a + 1 ≤ 1000000000000001 := by omega
  have HL := Lib.hid hl
  have HLN := Lib.hid hln
  clear hg hl hln
  by_cases hlt : a < (ln : Int)
  · obtain ⟨ad, z, hA, hadb, hc, hz0, hz1⟩ := HL.out a.toNat (by omega)
    subst hA
    have HC := Lib.hid (show (w.setCell ⟨g, 1, none⟩ (.int .i64 (a + 1))).cell? (ad.add a.toNat) = some (.int .i64 z) from
      (World.cell?_of_block (by rw [block_add]; exact Below.heap_setCell w ⟨g, 1, none⟩ _ _ (by show ad.block ≠ g; omega))).trans hc)
    clear hc HL
    have d1 : decide (a + 1 ≤ (ln : Int)) = true := by simp; omega
    have tb := Lib.hid (tmod_bd z n hn1)
    go_enter Tryz.func15, Tryz.ntmps15
    go_wp2_with fail
    clear q0 q1 qf
    generalize w.setCell ⟨g, 1, none⟩ (.int .i64 (a + 1)) = w1 at *
    have s0 : w1.cell? ⟨g, 0, none⟩ = some (.slice (some ad) ln c) := cell_of_row w1 g 0 _ _ (0, 0) HG.out
    have s1 : w1.cell? ⟨g, 1, none⟩ = some (.int .i64 (a + 1)) := cell_of_row w1 g 1 _ _ (0, 0) HG.out
    have s2 := HC.out
    go_quiet (fail)
    have w1' : IntKind.i64.wrap (a + 1 - 1) = a := by rw [show a + 1 - 1 = a by omega]; exact IntWalk.i64_in _ (by omega)
    go_wp2_with fail
    go_quiet (fail)
    clear w1' s0 s1 s2 d1
    obtain ⟨t1, t2⟩ := tb.out
    go_wp2_with fail
    all_goals
      go_ret
      exact ⟨_, rfl, by omega, by omega, HSET.out.1, only_drewN HSET.out.2 _⟩
  · have d1 : decide (a + 1 ≤ (ln : Int)) = false := by simp; omega
    have d2 : (0 : Int) ≤ (a + 1) * 7 := by omega
    have tb1 : 0 ≤ ((a + 1) * 7) % n := Int.emod_nonneg _ (by omega)
    have tb2 : ((a + 1) * 7) % n < n := Int.emod_lt_of_pos _ (by omega)
    clear HL
    go_enter Tryz.func15, Tryz.ntmps15
    go_wp2_with fail
    clear q0 q1 qf
    generalize w.setCell ⟨g, 1, none⟩ (.int .i64 (a + 1)) = w1 at *
    have s0 : w1.cell? ⟨g, 0, none⟩ = some (.slice A ln c) := cell_of_row w1 g 0 _ _ (0, 0) HG.out
    have s1 : w1.cell? ⟨g, 1, none⟩ = some (.int .i64 (a + 1)) := cell_of_row w1 g 1 _ _ (0, 0) HG.out
    go_quiet (fail)
    clear s0 s1 d1
    go_wp2_with fail
    go_ret
    exact ⟨_, rfl, tb1, tb2, HSET.out.1, only_drewN HSET.out.2 _⟩
/-- New makes a source of a list that lies below base. -/
theorem src_new (w : World) (A : Option Addr) (n c : Nat) (hn : (n : Int) ≤ 9223372036854775807)
    (hl : ∀ k, k < n → ∃ (ad : Addr) (z : Int), A = some ad ∧ ad.block < w.heap.size ∧ w.cell? (ad.add k) = some (.int .i64 z) ∧ -9223372036854775808 ≤ z ∧ z ≤ 9223372036854775807) :
    Calls Tryz.prog 13 #[.slice A n c] w fun e w' => e = .returned (.pointer (some ⟨w.heap.size, 0, none⟩)) ∧ SrcOk w' w.heap.size w.heap.size 0 ∧ Below w.heap.size w w' := by
  have HL := Lib.hid hl
  have HN := Lib.hid hn
  clear hl hn
  go_enter Tryz.func13, Tryz.ntmps13
  go_wp2
  go_ret
  refine ⟨rfl, ⟨Nat.le_refl _, A, n, c, 0, heap_alloc_new w _, by omega, by omega, HN.out, fun k hk => ?_⟩, (Below.refl _ _).alloc (Nat.le_refl _) _⟩
  obtain ⟨ad, z, e, hb, hc, hz⟩ := HL.out k hk
  exact ⟨ad, z, e, hb, (World.cell?_of_block (by rw [block_add]; exact Below.heap_alloc w _ _ hb)).trans hc, hz⟩
end Go.Proofs.YtbbihfafkpniiaaGreatDoor
/- readValue of the program. -/
namespace Go.Proofs.YtbbihfafkpniiaaGreatDoor
open Go.RowKit
theorem atoi_boundsF {l : List UInt8} {v : Int} (h : Lib.atoiAll l = .ok v) : I64 v := by
  cases l with
  | nil => cases h
  | cons c r =>
    unfold I64
    by_cases h43 : c.toNat = 43
    · have : c = 43 := UInt8.toNat_inj.1 h43
      subst this
      rw [Lib.atoiAll_plus] at h
      exact Lib.signless_bounds h
    · by_cases h45 : c.toNat = 45
      · have : c = 45 := UInt8.toNat_inj.1 h45
        subst this
        rw [Lib.atoiAll_minus] at h
        exact Lib.signed_bounds h
      · rw [Lib.atoiAll_plain c r h43 h45] at h
        exact Lib.signless_bounds h
/-- What readValue leaves: the test with its value, and whether it was one. -/
def RdV (w0 w : World) (g : Nat) (fd op : Int) (V : ByteArray) (e : Ending) (w' : World) : Prop := ∃ (ok : Bool) (nu : Int) (tx : ByteArray) (ot : Int), e = .returned (.bool ok) ∧ Blk w' g 40 (testC fd op nu tx ot) ∧ (ok = true → ReadV fd V nu tx ot) ∧ (ok = false → ∀ nu tx ot, ¬ ReadV fd V nu tx ot) ∧ (ok = true → I64 nu) ∧ tx.size ≤ 640 ∧ w.grownBy w' (some g) ∧ Below w0.heap.size w0 w'
theorem readV_text {fd : Int} {V : ByteArray} (ht : textB fd = true) (h : unqE V = 0) : ReadV fd V 0 (unqS V) 0 := .inl ⟨ht, h, rfl, rfl, rfl⟩
theorem readV_text_no {fd : Int} {V : ByteArray} (ht : textB fd = true) (h : unqE V ≠ 0) : ∀ nu tx ot, ¬ ReadV fd V nu tx ot := by
  rintro nu tx ot (k | k | k)
  · exact h k.2.1
  · rw [ht] at k; cases k.1
  · rw [ht] at k; cases k.1
theorem readV_name {fd : Int} {V : ByteArray} (ht : textB fd = false) (h : numF V ≠ 0) : ReadV fd V 0 ⟨#[]⟩ (numF V) := .inr (.inl ⟨ht, h, rfl, rfl, rfl⟩)
theorem readV_num {fd : Int} {V : ByteArray} {v : Int} (ht : textB fd = false) (h : numF V = 0) (hi : I64 v) (e : numS v = V) : ReadV fd V v ⟨#[]⟩ 0 := .inr (.inr ⟨ht, h, rfl, rfl, hi, e⟩)
theorem readV_num_no {fd : Int} {V : ByteArray} (ht : textB fd = false) (h : numF V = 0) (hn : ∀ v, I64 v → numS v ≠ V) : ∀ nu tx ot, ¬ ReadV fd V nu tx ot := by
  rintro nu tx ot (k | k | k)
  · rw [ht] at k; cases k.1
  · exact k.2.1 h
  · exact hn nu k.2.2.2.2.1 k.2.2.2.2.2
theorem unqS_640 (V : ByteArray) : (unqS V).size ≤ 640 := by
  cases hu : unqO V.data.toList with
  | none => rw [unqS_none hu]; decide
  | some t =>
    rw [unqS_some hu]
    show t.toArray.size ≤ 640
    simpa using (of_unqO hu).2
theorem i64_zero : I64 0 := ⟨by decide, by decide⟩
attribute [local irreducible] textB numF numS unqS unqE
set_option maxRecDepth 100000 in
set_option maxHeartbeats 4000000 in
theorem vreadF (w0 : World) (g : Nat) (hg0 : w0.heap.size ≤ g) (fd op : Int) (V : ByteArray) (hV : V.size ≤ 1000000) (w : World) (hb0 : Below w0.heap.size w0 w) (hT : Blk w g 40 (testC fd op 0 ⟨#[]⟩ 0)) (hn : FNames w0) (he : Env w0) :
    Calls Tryz.prog 139 #[.pointer (some ⟨g, 0, none⟩), .string V] w (RdV w0 w g fd op V) := by
  obtain ⟨q0, q1, q2, q3, q4⟩ := test_cells hT
  have HT := Lib.hid hT
  have HB0 := Lib.hid hb0
  have CT := Lib.hid (fun W => vtextF fd W)
  have HNF := Lib.hid (fun (W : World) (h : Below w0.heap.size w0 W) => vnumF V W (hn.below h))
  have HENV := Lib.hid (fun (W : World) (h : Below w0.heap.size w0 W) => he.below h)
  have f4 := hT.free 4
  have f3 := hT.free 3
  clear hn he hb0 hT
  cases ht : textB fd
  · rw [ht] at CT
    have HTX := Lib.hid ht
    clear ht f3
    by_cases h0 : numF V = 0
    · have H0 := Lib.hid h0
      rw [h0] at HNF
      clear h0
      have HT1 := Lib.hid (show Blk (w.setCell ⟨g, 4, none⟩ (.int .i64 0)) g 40 (testC fd op 0 ⟨#[]⟩ 0) from HT.out.put 4 (.int .i64 0))
      have HO1 := Lib.hid (only_setCell (World.grownBy.refl w (some g)) (p := ⟨g, 4, none⟩) (.inl rfl) (.int .i64 0))
      have HB1 := Lib.hid (HB0.out.setCell (p := ⟨g, 4, none⟩) hg0 (.int .i64 0))
      by_cases hv : ∃ v, Lib.atoiAll V.data.toList = .ok v
      · obtain ⟨v, hv⟩ := hv
        have HI := Lib.hid (atoi_boundsF hv)
        have HA := Lib.hid (fun W => vatoi_ok V hV v hv W)
        have HU := Lib.hid (show ∀ m, I64 m → numS m = V → m = v from fun m hm e => by have := atoi_num hm e; rw [hv] at this; injection this with this; exact this.symm)
        have HIT := Lib.hid (fun (W : World) (h : Below w0.heap.size w0 W) => vitoa v HI.out.1 HI.out.2 W (HENV.out W h).pow)
        clear hv
        go_enter Tryz.func139, Tryz.ntmps139
        go_wp2_with fail
        refine (CT.out _).mono ?_
        rintro e w1 ⟨rfl, rfl⟩
        go_wp2_with fail
        refine (HNF.out _ HB0.out).mono ?_
        rintro e w1 ⟨rfl, rfl⟩
        go_wp2_with fail
        refine (HA.out _).mono ?_
        rintro e w2 ⟨rfl, hb2⟩
        have hT2 := HT1.out.below hb2
        have HO2 := Lib.hid (only_below HO1.out hb2)
        have HB2 := Lib.hid (HB1.out.trans (hb2.mono HB1.out.size))
        clear q0 q1 q2 q3 q4 f4 hb2 HO1 HB1
        obtain ⟨q0, q1, q2, q3, q4⟩ := test_cells hT2
        have f2 := hT2.free 2
        have HT3 := Lib.hid (show Blk (w2.setCell ⟨g, 2, none⟩ (.int .i64 v)) g 40 (testC fd op v ⟨#[]⟩ 0) from hT2.put 2 (.int .i64 v))
        have HO3 := Lib.hid (only_setCell HO2.out (p := ⟨g, 2, none⟩) (.inl rfl) (.int .i64 v))
        have HB3 := Lib.hid (HB2.out.setCell (p := ⟨g, 2, none⟩) hg0 (.int .i64 v))
        clear hT2 HT1
        go_wp2_with fail
        refine (HIT.out _ HB3.out).mono ?_
        rintro e w4 ⟨rfl, hb4⟩
        have HT4 := Lib.hid (HT3.out.below hb4)
        have HO4 := Lib.hid (only_below HO3.out hb4)
        have HB4 := Lib.hid (HB3.out.trans (hb4.mono HB3.out.size))
        clear hb4
        by_cases hs : numS v = V
        · have es := str_eq hs
          have HR := Lib.hid (readV_num HTX.out H0.out HI.out hs)
          clear hs
          go_wp2_with fail
          go_ret
          exact ⟨true, v, ⟨#[]⟩, 0, ret_b (by first | rfl | simp), HT4.out, fun _ => HR.out, fun h => by (cases h), fun _ => HI.out, by decide, HO4.out, HB4.out⟩
        · have es := str_ne hs
          have HR := Lib.hid (readV_num_no (fd := fd) HTX.out H0.out (fun m hm e => hs ((HU.out m hm e) ▸ e)))
          clear hs
          go_wp2_with fail
          go_ret
          exact ⟨false, v, ⟨#[]⟩, 0, ret_b (by first | rfl | simp), HT4.out, fun h => by (cases h), fun _ => HR.out, fun _ => HI.out, by decide, HO4.out, HB4.out⟩
      · have HA := Lib.hid (fun (W : World) (h : Below w0.heap.size w0 W) => vatoi_bad V hV (fun v h => hv ⟨v, h⟩) W (HENV.out W h))
        have HR := Lib.hid (readV_num_no (fd := fd) HTX.out H0.out (fun m hm e => hv ⟨m, atoi_num hm e⟩))
        have HAB := Lib.hid (show ∀ v, Lib.atoiAll V.data.toList ≠ .ok v from fun v h => hv ⟨v, h⟩)
        clear hv
        go_enter Tryz.func139, Tryz.ntmps139
        go_wp2_with fail
        refine (CT.out _).mono ?_
        rintro e w1 ⟨rfl, rfl⟩
        go_wp2_with fail
        refine (HNF.out _ HB0.out).mono ?_
        rintro e w1 ⟨rfl, rfl⟩
        go_wp2_with fail
        refine (HA.out _ HB1.out).mono ?_
        rintro e w2 ⟨v, N, rfl, hb2⟩
        have hT2 := HT1.out.below hb2
        have HO2 := Lib.hid (only_below HO1.out hb2)
        have HB2 := Lib.hid (HB1.out.trans (hb2.mono HB1.out.size))
        clear q0 q1 q2 q3 q4 f4 hb2 HO1 HB1
        obtain ⟨q0, q1, q2, q3, q4⟩ := test_cells hT2
        have f2 := hT2.free 2
        have HT3 := Lib.hid (show Blk (w2.setCell ⟨g, 2, none⟩ (.int .i64 v)) g 40 (testC fd op v ⟨#[]⟩ 0) from hT2.put 2 (.int .i64 v))
        have HO3 := Lib.hid (only_setCell HO2.out (p := ⟨g, 2, none⟩) (.inl rfl) (.int .i64 v))
        have HB3 := Lib.hid (HB2.out.setCell (p := ⟨g, 2, none⟩) hg0 (.int .i64 v))
        clear hT2 HT1
        go_wp2_with fail
        go_ret
        exact ⟨false, v, ⟨#[]⟩, 0, ret_b (by first | rfl | simp), HT3.out, fun h => by (cases h), fun _ => HR.out, fun h => by (cases h), by decide, HO3.out, HB3.out⟩
    · have b0 : (numF V != 0) = true := by simpa using h0
      have HR := Lib.hid (readV_name HTX.out h0)
      have HT1 := Lib.hid (show Blk (w.setCell ⟨g, 4, none⟩ (.int .i64 (numF V))) g 40 (testC fd op 0 ⟨#[]⟩ (numF V)) from HT.out.put 4 (.int .i64 (numF V)))
      have HO1 := Lib.hid (only_setCell (World.grownBy.refl w (some g)) (p := ⟨g, 4, none⟩) (.inl rfl) (.int .i64 (numF V)))
      have HB1 := Lib.hid (HB0.out.setCell (p := ⟨g, 4, none⟩) hg0 (.int .i64 (numF V)))
      clear h0
      go_enter Tryz.func139, Tryz.ntmps139
      go_wp2_with fail
      refine (CT.out _).mono ?_
      rintro e w1 ⟨rfl, rfl⟩
      go_wp2_with fail
      refine (HNF.out _ HB0.out).mono ?_
      rintro e w1 ⟨rfl, rfl⟩
      go_wp2_with fail
      go_ret
      exact ⟨true, 0, ⟨#[]⟩, numF V, rfl, HT1.out, fun _ => HR.out, fun h => by (cases h), fun _ => i64_zero, by decide, HO1.out, HB1.out⟩
  · rw [ht] at CT
    have HUQ := Lib.hid (vunquote V w hV (HENV.out w HB0.out).tab)
    have HZ := Lib.hid (unqS_640 V)
    clear f4
    go_enter Tryz.func139, Tryz.ntmps139
    go_wp2_with fail
    refine (CT.out _).mono ?_
    rintro e w1 ⟨rfl, rfl⟩
    go_wp2_with fail
    refine HUQ.out.mono ?_
    rintro e w2 ⟨rfl, hb2⟩
    have hT2 := HT.out.below hb2
    have HO2 := Lib.hid (only_below (World.grownBy.refl w (some g)) hb2)
    have HB2 := Lib.hid (HB0.out.trans (hb2.mono HB0.out.size))
    clear q0 q1 q2 q3 q4 f3 hb2
    obtain ⟨q0, q1, q2, q3, q4⟩ := test_cells hT2
    have f3 := hT2.free 3
    have HT3 := Lib.hid (show Blk (w2.setCell ⟨g, 3, none⟩ (.string (unqS V))) g 40 (testC fd op 0 (unqS V) 0) from hT2.put 3 (.string (unqS V)))
    have HO3 := Lib.hid (only_setCell HO2.out (p := ⟨g, 3, none⟩) (.inl rfl) (.string (unqS V)))
    have HB3 := Lib.hid (HB2.out.setCell (p := ⟨g, 3, none⟩) hg0 (.string (unqS V)))
    by_cases hu : unqE V = 0
    · have HR := Lib.hid (readV_text ht hu)
      rw [hu]
      clear hu ht hT2
      go_wp2_with fail
      go_ret
      exact ⟨true, 0, unqS V, 0, ret_b (by first | rfl | simp), HT3.out, fun _ => HR.out, fun h => by (cases h), fun _ => i64_zero, HZ.out, HO3.out, HB3.out⟩
    · have HR := Lib.hid (readV_text_no ht hu)
      have bu : (unqE V == 0) = false := by simpa using hu
      clear hu ht hT2
      go_wp2_with fail
      go_ret
      exact ⟨false, 0, unqS V, 0, ret_b (by first | rfl | simp [bu] | exact bu), HT3.out, fun h => by (cases h), fun _ => HR.out, fun _ => i64_zero, HZ.out, HO3.out, HB3.out⟩
end Go.Proofs.YtbbihfafkpniiaaGreatDoor
/- Rules as values, and slices of tests in memory. -/
namespace Go.Proofs.YtbbihfafkpniiaaGreatDoor
open Go.ChangeShapes Go.WideShapes Go.RowKit
theorem addT_block (a : Addr) (n : Nat) : (a.add n).block = a.block := by unfold Addr.add; split <;> rfl
abbrev tstC (t : Tst) : Array Value := testC t.fd t.op t.nu t.tx t.ot
abbrev tstV (t : Tst) : Value := testV t.fd t.op t.nu t.tx t.ot
theorem tst_one (t : Tst) : (tstC t).all (·.oneCell') = true := by simp [tstC, Value.oneCell']
/-- The slice at A reads as the tests ts; it lies below block B. -/
def TestsAt (w : World) (B : Nat) (A : Option Addr) (ts : List Tst) : Prop := ∀ k (hk : k < ts.length), ∃ ad : Addr, A = some ad ∧ ad.block < B ∧ ∀ j, j < 5 → w.cell? ((ad.add (k * 5)).add j) = (tstC (ts[k]'hk))[j]?
theorem TestsAt.keep {w w' : World} {B B' : Nat} {A : Option Addr} {ts : List Tst} (h : TestsAt w B A ts) (hb : Below B' w w') (hB : B ≤ B') : TestsAt w' B A ts := fun k hk => by
  obtain ⟨ad, e, hl, hc⟩ := h k hk
  exact ⟨ad, e, hl, fun j hj => (hb.cell (by rw [addT_block, addT_block]; omega)).trans (hc j hj)⟩
theorem TestsAt.more {w : World} {B B' : Nat} {A : Option Addr} {ts : List Tst} (h : TestsAt w B A ts) (hB : B ≤ B') : TestsAt w B' A ts := fun k hk => by
  obtain ⟨ad, e, hl, hc⟩ := h k hk
  exact ⟨ad, e, by omega, hc⟩
theorem TestsAt.nil {w : World} {B : Nat} {A : Option Addr} : TestsAt w B A [] := fun k hk => by simp at hk
theorem TestsAt.grown {w w' : World} {B g : Nat} {A : Option Addr} {ts : List Tst} (h : TestsAt w B A ts) (hg : w.grownBy w' (some g)) (hB : B ≤ w.heap.size) (hne : ∀ ad, A = some ad → ad.block ≠ g) : TestsAt w' B A ts := fun k hk => by
  obtain ⟨ad, e, hl, hc⟩ := h k hk
  refine ⟨ad, e, hl, fun j hj => ?_⟩
  have : w'.cell? ((ad.add (k * 5)).add j) = w.cell? ((ad.add (k * 5)).add j) := World.cell?_of_block (hg.block _ (by rw [addT_block, addT_block]; omega) (fun e' => by injection e' with e'; rw [addT_block, addT_block] at e'; exact hne ad e e'))
  exact this.trans (hc j hj)
theorem tst_cells {w : World} {a : Addr} {t : Tst} (h : ∀ j, j < 5 → w.cell? (a.add j) = (tstC t)[j]?) :
    w.cell? a = some (.int .i64 t.fd) ∧ w.cell? ⟨a.block, a.off + 1, none⟩ = some (.int .i64 t.op) ∧ w.cell? ⟨a.block, a.off + 2, none⟩ = some (.int .i64 t.nu) ∧ w.cell? ⟨a.block, a.off + 3, none⟩ = some (.string t.tx) ∧ w.cell? ⟨a.block, a.off + 4, none⟩ = some (.int .i64 t.ot) :=
  ⟨h 0 (by omega), h 1 (by omega), h 2 (by omega), h 3 (by omega), h 4 (by omega)⟩
/-- A slice of the call's own that reads as tests. -/
def OwnT (w : World) (base : Nat) (v : Value) (ts : List Tst) : Prop := w.ownsRow base 40 5 v ts.length (ts.flatMap fun t => (tstC t).toList)
theorem OwnT.nil (w : World) (base : Nat) : OwnT w base (.slice none 0 0) [] := World.ownsRow_nil _ _ _ _
theorem OwnT.alloc {w : World} {base : Nat} {v : Value} {ts : List Tst} (h : OwnT w base v ts) (o : Obj) : OwnT (w.alloc o) base v ts := World.ownsRow.alloc h o
theorem OwnT.ge {w : World} {base : Nat} {v : Value} {ts : List Tst} (h : OwnT w base v ts) : ∀ r, v.ownBlock = some r → base ≤ r := fun r hr => (World.ownsRow.lt h r hr).1
theorem OwnT.below {w w' : World} {base : Nat} {v : Value} {ts : List Tst} (h : OwnT w base v ts) (hb : Below w.heap.size w w') : OwnT w' base v ts :=
  World.ownsRow.kept (row := none) h ⟨hb.os, hb.tape, hb.output, hb.size, fun i hi _ => hb.block i hi⟩ (by
    cases hv : v.ownBlock with
    | none => exact .inl rfl
    | some k => exact .inr (by simp))
theorem OwnT.only {w w' : World} {lo : Nat} {v : Value} {ts : List Tst} (h : OwnT w lo v ts) {g : Nat} (hg : w.grownBy w' (some g)) (hlt : g < lo) : OwnT w' lo v ts :=
  World.ownsRow.kept h hg (by
    cases hv : v.ownBlock with
    | none => exact .inl rfl
    | some k => right; intro e; injection e with e; have := h.ge k hv; omega)
theorem OwnT.setCell {w : World} {lo : Nat} {v : Value} {ts : List Tst} (h : OwnT w lo v ts) {p : Addr} (hp : p.block < lo) (u : Value) : OwnT (w.setCell p u) lo v ts := ownsRow_setCell_below h hp u
theorem OwnT.row {w : World} {lo g : Nat} {v : Value} {ts : List Tst} (h : OwnT w lo v ts) (hg : g < lo) (cs : Array Value) : OwnT (w.setRow g cs) lo v ts :=
  World.ownsRow.kept h (row := some g) ⟨rfl, rfl, rfl, by rw [setRow_size]; exact Nat.le_refl _, fun i _ hne => setRow_other _ g i cs (fun e => hne (by rw [e]))⟩ (by
    cases hv : v.ownBlock with
    | none => exact .inl rfl
    | some k => right; intro e; injection e with e; have := h.ge k hv; omega)
theorem OwnT.low {w : World} {lo lo' : Nat} {v : Value} {ts : List Tst} (h : OwnT w lo v ts) (hb : lo' ≤ lo) : OwnT w lo' v ts := Joins.ownsRow_le h hb
theorem tst_len (t : Tst) : (tstC t).toList.length = 5 := rfl
theorem flatT_at : ∀ (ts : List Tst) (k : Nat) (hk : k < ts.length) (j : Nat), j < 5 → (ts.flatMap fun t => (tstC t).toList)[k * 5 + j]? = (tstC (ts[k]'hk))[j]?
  | [], k, hk, _, _ => by simp at hk
  | p :: ts, 0, _, j, hj => by
    rw [List.flatMap_cons, List.getElem?_append_left (by rw [tst_len]; omega)]
    simp
  | p :: ts, k + 1, hk, j, hj => by
    have ih := flatT_at ts k (by simp at hk; omega) j hj
    rw [List.flatMap_cons, List.getElem?_append_right (by rw [tst_len]; omega), tst_len, show (k + 1) * 5 + j - 5 = k * 5 + j by omega, ih]
    simp
theorem addT_at (g a b : Nat) : ((⟨g, 0, none⟩ : Addr).add a).add b = ⟨g, a + b, none⟩ := by
  unfold Addr.add
  split
  · split
    · subst_vars; rfl
    · subst_vars; simp
  · split
    · subst_vars; simp
    · simp
theorem addT_zero (g n : Nat) : (⟨g, 0, none⟩ : Addr).add n = ⟨g, n, none⟩ := by
  unfold Addr.add
  split
  · subst_vars; rfl
  · simp
theorem OwnT.tests {w : World} {base : Nat} {v : Value} {ts : List Tst} (h : OwnT w base v ts) : ∃ A c, v = .slice A ts.length c ∧ TestsAt w w.heap.size A ts := by
  rcases Joins.ownsRow_forms h with ⟨rfl, h0⟩ | ⟨g, cap, rfl⟩
  · have : ts = [] := List.eq_nil_of_length_eq_zero h0
    subst this
    exact ⟨none, 0, rfl, TestsAt.nil⟩
  · refine ⟨_, cap, rfl, fun k hk => ⟨_, rfl, (World.ownsRow.lt h g rfl).2, fun j hj => ?_⟩⟩
    have hf := flatT_at ts k hk j hj
    have hs : j < (tstC (ts[k]'hk)).size := hj
    rw [Array.getElem?_eq_getElem hs] at hf ⊢
    have hc := World.ownsRow.cells h (g := g) rfl (k * 5 + j) _ hf
    rw [addT_zero] at hc
    rw [addT_at]
    exact hc
theorem Tryz.infoT : (Tryz.prog.info? 40).map (fun i => (i.zero, i.size, i.bytes)) = some (some (.agg (testC 0 0 0 ⟨#[]⟩ 0)), 5, 48) := by kernel_rfl
/-- A rule's cells. -/
abbrev rulC (r : Rul) (v : Value) : Array Value := #[.int .i64 r.li, .int .i64 r.ac, .int .u64 (r.ca : Int), v, .int .i64 r.wa, .string r.pa, .int .i64 r.pe, .string r.ke]
abbrev rulV (r : Rul) (v : Value) : Value := .agg (rulC r v)
abbrev RulB (w : World) (g : Nat) (r : Rul) (v : Value) : Prop := Blk w g 26 (rulC r v)
theorem rul_sz (r : Rul) (v : Value) : (Tryz.prog.info? 26).map (·.size) = some (rulC r v).size := by show _ = some 8; kernel_rfl
theorem rul_one (r : Rul) (A : Option Addr) (n c : Nat) : (rulC r (.slice A n c)).all (·.oneCell') = true := by simp [rulC, Value.oneCell']
section
variable {w : World} {g : Nat} {r : Rul} {v : Value}
theorem RulB.c0 (h : RulB w g r v) : w.cell? ⟨g, 0, none⟩ = some (.int .i64 r.li) := h.cell 0
theorem RulB.c1 (h : RulB w g r v) : w.cell? ⟨g, 1, none⟩ = some (.int .i64 r.ac) := h.cell 1
theorem RulB.c2 (h : RulB w g r v) : w.cell? ⟨g, 2, none⟩ = some (.int .u64 (r.ca : Int)) := h.cell 2
theorem RulB.c3 (h : RulB w g r v) : w.cell? ⟨g, 3, none⟩ = some v := h.cell 3
theorem RulB.c4 (h : RulB w g r v) : w.cell? ⟨g, 4, none⟩ = some (.int .i64 r.wa) := h.cell 4
theorem RulB.c5 (h : RulB w g r v) : w.cell? ⟨g, 5, none⟩ = some (.string r.pa) := h.cell 5
theorem RulB.c6 (h : RulB w g r v) : w.cell? ⟨g, 6, none⟩ = some (.int .i64 r.pe) := h.cell 6
theorem RulB.c7 (h : RulB w g r v) : w.cell? ⟨g, 7, none⟩ = some (.string r.ke) := h.cell 7
end
end Go.Proofs.YtbbihfafkpniiaaGreatDoor

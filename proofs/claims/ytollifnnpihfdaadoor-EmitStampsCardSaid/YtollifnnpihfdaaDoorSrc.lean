/- The source of numbers of package kauditmake: New and N. What is said of N: a number from 0 to n - 1, and the source stays one. -/
import Derived.Test.YtollifnnpihfdaaDoorOwn
import Derived.Test.YtollifnnpihfdaaDoorProg
import Derived.Lib.Hide
import Derived.WalkSpells
import Derived.LoopTactic
import Derived.Outline
import Derived.RegionTactic
import Derived.IntWalk
import Derived.Deep.QuietTactic
import Derived.BigQuiet
namespace Go.Proofs.YtollifnnpihfdaaDoor
open Go.RowKit
/-- Block g holds a source whose list lies below base; it has handed out at most b numbers. -/
def SrcOk (w : World) (base g : Nat) (b : Int) : Prop := base ≤ g ∧ ∃ (A : Option Addr) (n c : Nat) (a : Int), w.heap[g]? = some (.cells #[.slice A n c, .int .i64 a] 36 (0, 0)) ∧ 0 ≤ a ∧ a ≤ b ∧ (n : Int) ≤ 9223372036854775807 ∧
  ∀ k, k < n → ∃ (ad : Addr) (z : Int), A = some ad ∧ ad.block < base ∧ w.cell? (ad.add k) = some (.int .i64 z) ∧ -9223372036854775808 ≤ z ∧ z ≤ 9223372036854775807
theorem src_lt {w : World} {base g : Nat} {b : Int} (h : SrcOk w base g b) : g < w.heap.size := by
  obtain ⟨_, A, n, c, a, hg, _⟩ := h
  exact (Array.getElem?_eq_some_iff.1 hg).1
theorem SrcOk.more {w : World} {base g : Nat} {b b' : Int} (h : SrcOk w base g b) (hb : b ≤ b') : SrcOk w base g b' := by
  obtain ⟨h0, A, n, c, a, hg, ha, hab, hn, hl⟩ := h
  exact ⟨h0, A, n, c, a, hg, ha, by omega, hn, hl⟩
theorem block_add (a : Addr) (n : Nat) : (a.add n).block = a.block := by unfold Addr.add; split <;> rfl
/-- The source is kept where its block and the blocks below base are. -/
theorem SrcOk.keep {w w' : World} {base g : Nat} {b : Int} (h : SrcOk w base g b) (hg' : w'.heap[g]? = w.heap[g]?) (hk : ∀ i, i < base → w'.heap[i]? = w.heap[i]?) : SrcOk w' base g b := by
  obtain ⟨h0, A, n, c, a, hg, ha, hab, hn, hl⟩ := h
  refine ⟨h0, A, n, c, a, hg'.trans hg, ha, hab, hn, fun k hk' => ?_⟩
  obtain ⟨ad, z, e, hb, hc, hz⟩ := hl k hk'
  exact ⟨ad, z, e, hb, (World.cell?_of_block (by rw [block_add]; exact hk _ hb)).trans hc, hz⟩
theorem SrcOk.below {w w' : World} {base g : Nat} {b : Int} (h : SrcOk w base g b) (hb : Below w.heap.size w w') : SrcOk w' base g b :=
  h.keep (hb.block g (src_lt h)) fun i hi => hb.block i (by have := src_lt h; have := h.1; omega)
theorem SrcOk.grown {w w' : World} {base g : Nat} {b : Int} (h : SrcOk w base g b) {row : Option Nat} (hg : w.grownBy w' row) (hr : ∀ r, row = some r → base ≤ r ∧ r ≠ g) : SrcOk w' base g b :=
  h.keep (hg.block g (src_lt h) (fun e => (hr g e.symm).2 rfl)) fun i hi => hg.block i (by have := src_lt h; have := h.1; omega) (fun e => by have := (hr i e.symm).1; omega)
theorem SrcOk.alloc {w : World} {base g : Nat} {b : Int} (h : SrcOk w base g b) (o : Obj) : SrcOk (w.alloc o) base g b := h.below ((Below.refl _ _).alloc (Nat.le_refl _) o)
theorem SrcOk.drewN {w : World} {base g : Nat} {b : Int} (h : SrcOk w base g b) (n : Nat) : SrcOk (w.drewN n) base g b := h
theorem SrcOk.drew {w : World} {base g : Nat} {b : Int} (h : SrcOk w base g b) : SrcOk w.drew base g b := h
theorem SrcOk.setCell {w : World} {base g : Nat} {b : Int} (h : SrcOk w base g b) {p : Addr} (hp : base ≤ p.block) (hne : p.block ≠ g) (u : Value) : SrcOk (w.setCell p u) base g b :=
  h.keep (Below.heap_setCell w p u g (Ne.symm hne)) fun i hi => Below.heap_setCell w p u i (by omega)
/-- Only block g, and what is new, has changed: the steps. -/
theorem only_drewN {a w : World} {row : Option Nat} (h : a.grownBy w row) (n : Nat) : a.grownBy (w.drewN n) row := ⟨h.os, h.tape, h.output, h.size, h.block⟩
theorem only_alloc {a w : World} {row : Option Nat} (h : a.grownBy w row) (o : Obj) : a.grownBy (w.alloc o) row :=
  ⟨h.os, h.tape, h.output, Nat.le_trans h.size (by simp), fun i hi hne => (Below.heap_alloc w o i (Nat.lt_of_lt_of_le hi h.size)).trans (h.block i hi hne)⟩
theorem only_setCell {a w : World} {g : Nat} (h : a.grownBy w (some g)) {p : Addr} (hp : p.block = g ∨ a.heap.size ≤ p.block) (u : Value) : a.grownBy (w.setCell p u) (some g) :=
  ⟨h.os, h.tape, h.output, by simpa [World.setCell] using h.size, fun i hi hne => (Below.heap_setCell w p u i (fun e => by
    rcases hp with hp | hp
    · exact hne (by rw [e, hp])
    · omega)).trans (h.block i hi hne)⟩
theorem only_below {a w w' : World} {row : Option Nat} (h : a.grownBy w row) (hb : Below w.heap.size w w') : a.grownBy w' row :=
  ⟨hb.os.trans h.os, hb.tape.trans h.tape, hb.output.trans h.output, Nat.le_trans h.size hb.size, fun i hi hne => (hb.block i (Nat.lt_of_lt_of_le hi h.size)).trans (h.block i hi hne)⟩
theorem below_only {B : Nat} {a w w' : World} {g : Nat} (h : Below B a w) (hg : w.grownBy w' (some g)) (hB : B ≤ w.heap.size) (hBg : B ≤ g) : Below B a w' :=
  h.grown hg hB fun k hk => by injection hk with hk; omega
def NPost (w : World) (base g : Nat) (b n : Int) (e : Ending) (w' : World) : Prop := ∃ x : Int, e = .returned (.int .i64 x) ∧ 0 ≤ x ∧ x < n ∧ SrcOk w' base g (b + 1) ∧ w.grownBy w' (some g)
theorem src_set {w : World} {base g : Nat} {b : Int} (h0 : base ≤ g) {A : Option Addr} {n c : Nat} {a : Int} (hg : w.heap[g]? = some (.cells #[.slice A n c, .int .i64 a] 36 (0, 0))) (ha : 0 ≤ a) (hab : a ≤ b) (hn : (n : Int) ≤ 9223372036854775807)
    (hl : ∀ k, k < n → ∃ (ad : Addr) (z : Int), A = some ad ∧ ad.block < base ∧ w.cell? (ad.add k) = some (.int .i64 z) ∧ -9223372036854775808 ≤ z ∧ z ≤ 9223372036854775807) :
    SrcOk (w.setCell ⟨g, 1, none⟩ (.int .i64 (a + 1))) base g (b + 1) ∧ w.grownBy (w.setCell ⟨g, 1, none⟩ (.int .i64 (a + 1))) (some g) := by
  refine ⟨⟨h0, A, n, c, a + 1, heap_setCell_same w g 1 #[.slice A n c, .int .i64 a] _ (.int .i64 (a + 1)) hg, by omega, by omega, hn, fun k hk => ?_⟩, only_setCell (World.grownBy.refl w _) (.inl rfl) _⟩
  obtain ⟨ad, z, e, hb, hc, hz⟩ := hl k hk
  exact ⟨ad, z, e, hb, (World.cell?_of_block (by rw [block_add]; exact Below.heap_setCell w ⟨g, 1, none⟩ _ _ (by show ad.block ≠ g; omega))).trans hc, hz⟩
theorem tmod_bd (z n : Int) (hn : 1 ≤ n) : -n < z.tmod n ∧ z.tmod n < n := by
  have h1 := Int.tmod_lt_of_pos z (show 0 < n by omega)
  have h2 : -n < z.tmod n := by
    have := Int.tmod_lt_of_pos (-z) (show 0 < n by omega)
    rw [Int.neg_tmod] at this; omega
  exact ⟨h2, h1⟩
set_option maxHeartbeats 1000000 in
theorem src_n (w : World) (base g : Nat) (b n : Int) (h : SrcOk w base g b) (hb : b ≤ 1000000000000000) (hn1 : 1 ≤ n) (hn2 : n ≤ 1000000000000000) :
    Calls Tryd.prog 5 #[.pointer (some ⟨g, 0, none⟩), .int .i64 n] w (NPost w base g b n) := by
  obtain ⟨h0, A, ln, c, a, hg, ha, hab, hln, hl⟩ := h
  have HSET := Lib.hid (src_set h0 hg ha hab hln hl)
  have q0 : w.cell? ⟨g, 0, none⟩ = some (.slice A ln c) := cell_of_row w g 0 _ _ (0, 0) hg
  have q1 : w.cell? ⟨g, 1, none⟩ = some (.int .i64 a) := cell_of_row w g 1 _ _ (0, 0) hg
  have qf : w.frozen? ⟨g, 1, none⟩ = false := frozen_of_row w g 1 _ _ hg
  have HG := Lib.hid (show (w.setCell ⟨g, 1, none⟩ (.int .i64 (a + 1))).heap[g]? = some (.cells #[.slice A ln c, .int .i64 (a + 1)] 36 (0, 0)) from heap_setCell_same w g 1 #[.slice A ln c, .int .i64 a] _ (.int .i64 (a + 1)) hg)
  have hkb : a + 1 ≤ 1000000000000001 := by omega
  have HL := Lib.hid hl
  have HLN := Lib.hid hln
  clear hg hl hln
  by_cases hlt : a < (ln : Int)
  · obtain ⟨ad, z, hA, hadb, hc, hz0, hz1⟩ := HL.out a.toNat (by omega)
    subst hA
    have HC := Lib.hid (show (w.setCell ⟨g, 1, none⟩ (.int .i64 (a + 1))).cell? (ad.add a.toNat) = some (.int .i64 z) from
      (World.cell?_of_block (by rw [block_add]; exact Below.heap_setCell w ⟨g, 1, none⟩ _ _ (by show ad.block ≠ g; omega))).trans hc)
    clear hc HL
    have d1 : decide (a + 1 ≤ (ln : Int)) = true := by simp; omega
    have tb := Lib.hid (tmod_bd z n hn1)
    go_enter Tryd.func5, Tryd.ntmps5
    go_wp2_with fail
    clear q0 q1 qf
    generalize w.setCell ⟨g, 1, none⟩ (.int .i64 (a + 1)) = w1 at *
    have s0 : w1.cell? ⟨g, 0, none⟩ = some (.slice (some ad) ln c) := cell_of_row w1 g 0 _ _ (0, 0) HG.out
    have s1 : w1.cell? ⟨g, 1, none⟩ = some (.int .i64 (a + 1)) := cell_of_row w1 g 1 _ _ (0, 0) HG.out
    have s2 := HC.out
    go_quiet (fail)
    have w1' : IntKind.i64.wrap (a + 1 - 1) = a := by rw [show a + 1 - 1 = a by omega]; exact IntWalk.i64_in _ (by omega)
    go_wp2_with fail
    go_quiet (fail)
    clear w1' s0 s1 s2 d1
    obtain ⟨t1, t2⟩ := tb.out
    go_wp2_with fail
    all_goals
      go_ret
      exact ⟨_, rfl, by omega, by omega, HSET.out.1, only_drewN HSET.out.2 _⟩
  · have d1 : decide (a + 1 ≤ (ln : Int)) = false := by simp; omega
    have d2 : (0 : Int) ≤ (a + 1) * 7 := by omega
    have tb1 : 0 ≤ ((a + 1) * 7) % n := Int.emod_nonneg _ (by omega)
    have tb2 : ((a + 1) * 7) % n < n := Int.emod_lt_of_pos _ (by omega)
    clear HL
    go_enter Tryd.func5, Tryd.ntmps5
    go_wp2_with fail
    clear q0 q1 qf
    generalize w.setCell ⟨g, 1, none⟩ (.int .i64 (a + 1)) = w1 at *
    have s0 : w1.cell? ⟨g, 0, none⟩ = some (.slice A ln c) := cell_of_row w1 g 0 _ _ (0, 0) HG.out
    have s1 : w1.cell? ⟨g, 1, none⟩ = some (.int .i64 (a + 1)) := cell_of_row w1 g 1 _ _ (0, 0) HG.out
    go_quiet (fail)
    clear s0 s1 d1
    go_wp2_with fail
    go_ret
    exact ⟨_, rfl, tb1, tb2, HSET.out.1, only_drewN HSET.out.2 _⟩
/-- New makes a source of a list that lies below base. -/
theorem src_new (w : World) (A : Option Addr) (n c : Nat) (hn : (n : Int) ≤ 9223372036854775807)
    (hl : ∀ k, k < n → ∃ (ad : Addr) (z : Int), A = some ad ∧ ad.block < w.heap.size ∧ w.cell? (ad.add k) = some (.int .i64 z) ∧ -9223372036854775808 ≤ z ∧ z ≤ 9223372036854775807) :
    Calls Tryd.prog 4 #[.slice A n c] w fun e w' => e = .returned (.pointer (some ⟨w.heap.size, 0, none⟩)) ∧ SrcOk w' w.heap.size w.heap.size 0 ∧ Below w.heap.size w w' := by
  have HL := Lib.hid hl
  have HN := Lib.hid hn
  clear hl hn
  go_enter Tryd.func4, Tryd.ntmps4
  go_wp2
  go_ret
  refine ⟨rfl, ⟨Nat.le_refl _, A, n, c, 0, heap_alloc_new w _, by omega, by omega, HN.out, fun k hk => ?_⟩, (Below.refl _ _).alloc (Nat.le_refl _) _⟩
  obtain ⟨ad, z, e, hb, hc, hz⟩ := HL.out k hk
  exact ⟨ad, z, e, hb, (World.cell?_of_block (by rw [block_add]; exact Below.heap_alloc w _ _ hb)).trans hc, hz⟩
end Go.Proofs.YtollifnnpihfdaaDoor

/- The walk of the law ValueParses. -/
import Derived.Test.YthidojkckhjciaaDoorRParse
namespace Go.Proofs.YthidojkckhjciaaDoor
open Go.RowKit
theorem two_str {w : World} {g : Nat} {t : TypeId} {x y : ByteArray} (h : Blk w g t #[.string x, .string y]) (k : Nat) (hk : k < 2) : ∃ z, w.cell? ⟨g, k, none⟩ = some (.string z) ∧ (z = x ∨ z = y) := by
  match k, hk with
  | 0, _ => exact ⟨x, h.cell 0, .inl rfl⟩
  | 1, _ => exact ⟨y, h.cell 1, .inr rfl⟩
attribute [local irreducible] checkE fmtS
set_option maxRecDepth 100000 in
set_option maxHeartbeats 4000000 in
theorem valueParses_walk (s : ByteArray) (w : World) (hs : s.size ≤ maxLen) (he : Env w) : Calls Tryd.prog 8 #[.string s] w fun e w' => e = .returned (.bool true) ∧ Below w.heap.size w w' := by
  have HE := Lib.hid (fun (W : World) (h : Below w.heap.size w W) => he.below h)
  clear he
  unfold maxLen at hs
  by_cases h1 : s.size ≤ 1500
  · clear hs
    go_enter Tryd.func8, Tryd.ntmps8
    go_wp2_with fail
    go_loopw [4] (fun i wr => ∃ k : Nat, k ≤ 2 ∧ i = .int .i64 k ∧ Below (w.heap.size + 1) (w.alloc (.cells #[.string s, .string (⟨#[97, 61]⟩ ++ s)] 9)) wr) (fun i _ => 2 - (intOf i).toNat)
    case atStart => exact ⟨0, by omega, rfl, Below.refl _ _⟩
    case round =>
      obtain ⟨k, hk, rfl, hb⟩ := hrel
      have hbw := unbox hb
      by_cases hlt : k < 2
      · obtain ⟨z, q, hz⟩ := two_str ((Blk.new w _ _).keep hb (by omega)) k hlt
        have hzs : z.size ≤ 1000000 := by
          rcases hz with rfl | rfl
          · omega
          · rw [ByteArray.size_append]; show 2 + s.size ≤ _; omega
        clear hz
        go_wp2_with fail
        refine (vparse z hzs _ (HE.out _ hbw)).mono ?_
        rintro e w1 ⟨nm, kd, nu, tx, er, rfl, hp1, hb1⟩
        have q1 := (hb1.cell (p := ⟨w.heap.size, k, none⟩) (block_lt_of_cell q)).trans q
        have b1 : Below (w.heap.size + 1) (w.alloc (.cells #[.string s, .string (⟨#[97, 61]⟩ ++ s)] 9)) w1 := hb.trans (hb1.mono (by have := hb.size; simp at this; omega))
        have hsz1 := b1.size
        simp at hsz1
        clear hb hb1 q hbw
        have q2 := ((Below.refl w1.heap.size w1).alloc (Nat.le_refl _) (.cells #[.string nm, .int .i64 kd, .int .i64 nu, .string tx] 31)).cell (p := ⟨w.heap.size, k, none⟩) (block_lt_of_cell q1) |>.trans q1
        have b2 := b1.alloc hsz1 (.cells #[.string nm, .int .i64 kd, .int .i64 nu, .string tx] 31)
        have P2 := Blk.new w1 #[.string nm, .int .i64 kd, .int .i64 nu, .string tx] 31
        clear q1 b1
        go_wp2_with fail
        generalize w1.alloc (.cells #[.string nm, .int .i64 kd, .int .i64 nu, .string tx] 31) = w2 at *
        generalize w1.heap.size = g1 at *
        refine (rparse z hzs _).mono ?_
        rintro e w3 ⟨nm', kd', nu', tx', er', rfl, hp2, hb3⟩
        obtain ⟨e1, e2, e3, e4, e5⟩ := hp2.unique hp1
        subst e1 e2 e3 e4 e5
        have P3 := P2.below hb3
        have b3 : Below (w.heap.size + 1) (w.alloc (.cells #[.string s, .string (⟨#[97, 61]⟩ ++ s)] 9)) w3 := b2.trans (hb3.mono (by have := b2.size; simp at this; omega))
        have hsz3 := b3.size
        simp at hsz3
        have P4 := P3.alloc (.cells #[.string nm', .int .i64 kd', .int .i64 nu', .string tx'] 31)
        have p0 := P4.cell 0
        have p1 := P4.cell 1
        have p2 := P4.cell 2
        have p3 := P4.cell 3
        clear b2 P2 P3 hb3 hp1 hp2 q2
        go_wp2_with fail
        go_roundw
        case rel => exact ⟨k + 1, by omega, by go_num, b3.alloc hsz3 _⟩
        case measure => simp [intOf]; omega
      · clear hb
        go_wp2_with fail
        refine (awake_true _ (HE.out _ hbw).tab).mono ?_
        rintro e w3 ⟨rfl, hb3⟩
        go_wp2_with fail
        go_ret
        exact ⟨rfl, below_then hbw hb3⟩
  · go_enter Tryd.func8, Tryd.ntmps8
    go_wp2_with fail
    refine (awake_true _ (HE.out _ (Below.refl _ _)).tab).mono ?_
    rintro e w3 ⟨rfl, hb3⟩
    go_wp2_with fail
    go_ret
    exact ⟨rfl, hb3⟩
end Go.Proofs.YthidojkckhjciaaDoor

/- Texts of one proof, laid together. -/
import Derived.Test.YtokkbboahajbhaaDoorTCallBack
import Derived.Deep.OwnRows
import Derived.Deep.DeepCutAuto
import Derived.Deep.CutBlock
import Derived.RegionTactic
import Derived.Test.YtokkbboahajbhaaDoorTCallParses
/- The walk of the law CallLimits. -/
namespace Go.Proofs.YtokkbboahajbhaaDoor
open Go.RowKit
def repS (m : Nat) (c : UInt8) : ByteArray := ⟨(List.replicate m c).toArray⟩
theorem repS_size (m : Nat) (c : UInt8) : (repS m c).size = m := by show (List.replicate m c).toArray.size = m; simp
/-- Two rows of bytes of the call's own. -/
structure TwoRows (w wx : World) (g1 g2 N M : Nat) (xs ys : Array Value) : Prop where
  b1 : Blk wx g1 5 xs
  b2 : Blk wx g2 5 ys
  ne : g1 ≠ g2
  s1 : xs.size = N
  s2 : ys.size = M
  h1 : w.heap.size ≤ g1
  h2 : w.heap.size ≤ g2
  bel : Below w.heap.size w wx
theorem TwoRows.put1 {w wx : World} {g1 g2 N M : Nat} {xs ys : Array Value} (h : TwoRows w wx g1 g2 N M xs ys) (k : Nat) (v : Value) : TwoRows w (wx.setCell ⟨g1, k, none⟩ v) g1 g2 N M (xs.setIfInBounds k v) ys :=
  ⟨h.b1.put k v, h.b2.put_other (p := ⟨g1, k, none⟩) v (fun e => h.ne e.symm), h.ne, by simpa using h.s1, h.s2, h.h1, h.h2, h.bel.setCell (p := ⟨g1, k, none⟩) h.h1 v⟩
theorem TwoRows.put2 {w wx : World} {g1 g2 N M : Nat} {xs ys : Array Value} (h : TwoRows w wx g1 g2 N M xs ys) (k : Nat) (v : Value) : TwoRows w (wx.setCell ⟨g2, k, none⟩ v) g1 g2 N M xs (ys.setIfInBounds k v) :=
  ⟨h.b1.put_other (p := ⟨g2, k, none⟩) v h.ne, h.b2.put k v, h.ne, h.s1, by simpa using h.s2, h.h1, h.h2, h.bel.setCell (p := ⟨g2, k, none⟩) h.h2 v⟩
theorem fill_next {xs : Array Value} {k N : Nat} {u : Value} (hs : xs.size = N) (hk : k < N) (h : ∀ j, j < k → xs[j]? = some u) : ∀ j, j < k + 1 → (xs.setIfInBounds k u)[j]? = some u := fun j hj => by
  rw [Array.getElem?_setIfInBounds]
  by_cases e : k = j
  · rw [if_pos e, if_pos (by omega)]
  · rw [if_neg e]; exact h j (by omega)
theorem conv_row {w : World} {g N : Nat} {xs : Array Value} {c : UInt8} (hb : Blk w g 5 xs) (h : ∀ j, j < N → xs[j]? = some (bv c)) :
    (convert 50 9 (.slice (some ⟨g, 0, none⟩) N N)).run Tryd.prog w = .ok (.string (repS N c)) w := by
  have h1 := run_convert_bytes_back (P := Tryd.prog) w 50 9 5 ⟨g, 0, none⟩ N (List.replicate N c) Tryd.underlying50 Tryd.underlying5 Tryd.underlying9 (fun j hj => by
    have hadd : (⟨g, 0, none⟩ : Addr).add j = ⟨g, j, none⟩ := by unfold Addr.add; split <;> simp_all
    rw [hadd, hb.cell, List.getElem_replicate]
    exact h j (by simpa using hj))
  rw [List.length_replicate] at h1
  exact h1
theorem lim_row : rowI 9 = ⟨⟨#[115, 121, 109, 108, 105, 110, 107]⟩, 0, 1, 1, 1⟩ := by kernel_rfl
theorem lim_big {p q : ByteArray} (h : 128 < p.size ∨ 64 < q.size) : callE 9 (fun _ => 0) [p] [q] = 102 ∧ callS 9 (fun _ => 0) [p] [q] = ⟨#[]⟩ := by
  have h1 : callE 9 (fun _ => 0) [p] [q] = 102 := by
    unfold callE
    rw [lim_row, if_neg (by decide), if_neg (by rw [zeroB_yes (fun j _ _ => rfl)]; decide), if_neg (by simp), if_pos]
    rcases h with h | h
    · exact .inl (by simp [longB]; omega)
    · exact .inr (by simp [longB]; omega)
  refine ⟨h1, ?_⟩
  unfold callS
  rw [if_neg (by rw [h1]; decide)]
theorem lim_ok {p q : ByteArray} (h1 : p.size ≤ 128) (h2 : q.size ≤ 64) : callE 9 (fun _ => 0) [p] [q] = 0 := by
  unfold callE
  rw [lim_row, if_neg (by decide), if_neg (by rw [zeroB_yes (fun j _ _ => rfl)]; decide), if_neg (by simp), if_neg]
  simp [longB]; omega
abbrev mk0 (n : Nat) : Obj := .cells (madeCells #[.int .u8 0] n) 5
theorem two_new (w : World) (N M : Nat) : TwoRows w ((w.alloc (mk0 N)).alloc (mk0 M)).drew w.heap.size (w.heap.size + 1) N M (madeCells #[.int .u8 0] N) (madeCells #[.int .u8 0] M) := by
  refine ⟨((Blk.new w _ _).alloc _).drewN 1, ?_, by omega, by simp [madeCells], by simp [madeCells], Nat.le_refl _, by omega, ?_⟩
  · have hsz : (w.alloc (mk0 N)).heap.size = w.heap.size + 1 := by simp
    have := Blk.new (w.alloc (mk0 N)) (madeCells #[.int .u8 0] M) 5
    rw [hsz] at this
    exact this
  · exact (((Below.refl w.heap.size w).alloc (Nat.le_refl _) _).alloc (by simp) _).drew
theorem TwoRows.swap {w wx : World} {g1 g2 N M : Nat} {xs ys : Array Value} (h : TwoRows w wx g1 g2 N M xs ys) : TwoRows w wx g2 g1 M N ys xs :=
  ⟨h.b2, h.b1, fun e => h.ne e.symm, h.s2, h.s1, h.h2, h.h1, h.bel⟩
theorem made_size (z : Value) (n : Nat) : (madeCells #[z] n).size = n := by simp [madeCells]
attribute [local irreducible] rowI rowC numC numS unqS unqE callS callE rdN repS
set_option maxRecDepth 100000 in
set_option maxHeartbeats 16000000 in
theorem callLimits_walk (n m : Int) (c : UInt8) (w : World) (hn : 0 ≤ n ∧ n ≤ 255) (hm : 0 ≤ m ∧ m ≤ 255) (he : Env w) (hc : Calls10 w) :
    Calls Tryd.prog 8 #[.int .u8 n, .int .u8 m, bv c] w fun e w' => e = .returned (.bool true) ∧ Below w.heap.size w w' := by
  have HE := Lib.hid (fun (W : World) (h : Below w.heap.size w W) => he.below h)
  have HC := Lib.hid (fun (W : World) (h : Below w.heap.size w W) => hc.below h (Nat.le_refl _))
  have HAW := Lib.hid (fun (W : World) (h : Below w.heap.size w W) => awake10 W (HC.out _ h) (HE.out _ h).tab (HE.out _ h).pow)
  clear he hc
  obtain ⟨n0, n1⟩ := hn
  obtain ⟨m0, m1⟩ := hm
  obtain ⟨N, hN⟩ : ∃ N : Nat, 126 + n % 5 = (N : Int) := ⟨(126 + n % 5).toNat, by omega⟩
  obtain ⟨M, hM⟩ : ∃ M : Nat, 62 + m % 5 = (M : Int) := ⟨(62 + m % 5).toNat, by omega⟩
  have hN0 : 126 ≤ N := by omega
  have hN1 : N ≤ 130 := by omega
  have hM0 : 62 ≤ M := by omega
  have hM1 : M ≤ 66 := by omega
  have hmk1 := run_make_row' (P := Tryd.prog) 50 5 (.int .u8 0) 1 Tryd.underlying50 Tryd.info5 rfl .i64 .i64 N (by omega) (by omega)
  have hmk2 := run_make_row' (P := Tryd.prog) 50 5 (.int .u8 0) 1 Tryd.underlying50 Tryd.info5 rfl .i64 .i64 M (by omega) (by omega)
  have hr1 : n.tmod 5 = n % 5 := Int.tmod_eq_emod_of_nonneg n0
  have hr2 : m.tmod 5 = m % 5 := Int.tmod_eq_emod_of_nonneg m0
  have hw1 : IntKind.i64.wrap (126 + n % 5) = (N : Int) := by rw [hN]; exact IntWalk.i64_in _ (by omega)
  have hw2 : IntKind.i64.wrap (62 + m % 5) = (M : Int) := by rw [hM]; exact IntWalk.i64_in _ (by omega)
  go_enter Tryd.func8, Tryd.ntmps8
  go_upto_region 1 with (fail)
  go_cut [7, 8] (fun p q wx => ∃ (g1 g2 : Nat) (xs ys : Array Value), p = .slice (some ⟨g1, 0, none⟩) N N ∧ q = .slice (some ⟨g2, 0, none⟩) M M ∧ TwoRows w wx g1 g2 N M xs ys)
  case first =>
    go_region
    all_goals
      go_wp2_with fail
      go_meet
      first
        | exact ⟨_, _, _, _, rfl, rfl, two_new w N M⟩
        | exact ⟨_, _, _, _, rfl, rfl, (two_new w M N).swap⟩
  case rest =>
    obtain ⟨g1, g2, xs, ys, rfl, rfl, hrow⟩ := hcut
    clear hmk1 hmk2 hr1 hr2 hw1 hw2 hN hM
    go_wp2_with fail
    go_loopw [9] (fun i wr => ∃ (k : Nat) (xs : Array Value), k ≤ N ∧ i = .int .i64 (k : Int) ∧ TwoRows w wr g1 g2 N M xs ys ∧ Hid (∀ j, j < k → xs[j]? = some (bv c))) (fun i _ => N - (intOf i).toNat)
    case atStart => exact ⟨0, xs, by omega, rfl, hrow, fun j hj => by omega⟩
    case round =>
      obtain ⟨k, xs, hk, rfl, hrow, hxs⟩ := hrel
      by_cases hlt : k < N
      · have hc : wr.cell? ⟨g1, k, none⟩ = some (xs[k]'(by have := hrow.s1; omega)) := by
          rw [hrow.b1.cell, Array.getElem?_eq_getElem]
        have hf := hrow.b1.free k
        have HX := Lib.hid (fill_next hrow.s1 hlt hxs.out)
        go_wp2_with fail
        go_roundw
        case rel => exact ⟨k + 1, _, by omega, by go_num, hrow.put1 k (bv c), HX.out⟩
        case measure => simp [intOf]; omega
      · obtain rfl : k = N := by omega
        have HXS := Lib.hid hxs.out
        clear hxs
        go_wp2_with fail
        go_loopw [10] (fun i wr => ∃ (j : Nat) (ys : Array Value), j ≤ M ∧ i = .int .i64 (j : Int) ∧ TwoRows w wr g1 g2 k M xs ys ∧ Hid (∀ i, i < j → ys[i]? = some (bv c))) (fun i _ => M - (intOf i).toNat)
        case atStart => exact ⟨0, _, by omega, rfl, hrow, fun j hj => by omega⟩
        case round =>
          obtain ⟨j, ys, hj, rfl, hrow, hys⟩ := hrel
          by_cases hlt : j < M
          · have hc : wr.cell? ⟨g2, j, none⟩ = some (ys[j]'(by have := hrow.s2; omega)) := by
              rw [hrow.b2.cell, Array.getElem?_eq_getElem]
            have hf := hrow.b2.free j
            have HX := Lib.hid (fill_next hrow.s2 hlt hys.out)
            go_wp2_with fail
            go_roundw
            case rel => exact ⟨j + 1, _, by omega, by go_num, hrow.put2 j (bv c), HX.out⟩
            case measure => simp [intOf]; omega
          · obtain rfl : j = M := by omega
            have hp := conv_row hrow.b1 HXS.out
            have hq := fun o => conv_row (hrow.b2.alloc o) hys.out
            have s1 := repS_size k c
            have s2 := repS_size j c
            generalize repS k c = p at *
            generalize repS j c = q at *
            have bwr := hrow.bel
            clear hrow hys HXS
            go_wp2_with fail
            clear hp hq
            have ba : Below wr.heap.size wr (wr.alloc (.cells #[.string p] 9)) := (Below.refl _ _).alloc (Nat.le_refl _) _
            have bb : Below (wr.alloc (.cells #[.string p] 9)).heap.size (wr.alloc (.cells #[.string p] 9)) ((wr.alloc (.cells #[.string p] 9)).alloc (.cells #[.string q] 9)) := (Below.refl _ _).alloc (Nat.le_refl _) _
            have bc : Below ((wr.alloc (.cells #[.string p] 9)).alloc (.cells #[.string q] 9)).heap.size ((wr.alloc (.cells #[.string p] 9)).alloc (.cells #[.string q] 9)) (((wr.alloc (.cells #[.string p] 9)).alloc (.cells #[.string q] 9)).alloc (.cells (cellsCall 9 (fun _ => 0) (.slice (some ⟨wr.heap.size, 0, none⟩) 1 1) (.slice (some ⟨wr.heap.size + 1, 0, none⟩) 1 1)) 25)) := (Below.refl _ _).alloc (Nat.le_refl _) _
            have b3 := below_then bwr (below_then ba (below_then bb bc))
            have HPP := Lib.hid ((((one_new wr p 9).keep bb (by simp)).keep bc (by simp)).more (show wr.heap.size + 1 ≤ (((wr.alloc (.cells #[.string p] 9)).alloc (.cells #[.string q] 9)).alloc (.cells (cellsCall 9 (fun _ => 0) (.slice (some ⟨wr.heap.size, 0, none⟩) 1 1) (.slice (some ⟨wr.heap.size + 1, 0, none⟩) 1 1)) 25)).heap.size by simp))
            have hQQ : StrsAt ((wr.alloc (.cells #[.string p] 9)).alloc (.cells #[.string q] 9)) (wr.heap.size + 1 + 1) (some ⟨wr.heap.size + 1, 0, none⟩) [q] := by
              have := one_new (wr.alloc (.cells #[.string p] 9)) q 9
              simpa using this
            have HQQ := Lib.hid ((hQQ.keep bc (by simp)).more (show wr.heap.size + 1 + 1 ≤ (((wr.alloc (.cells #[.string p] 9)).alloc (.cells #[.string q] 9)).alloc (.cells (cellsCall 9 (fun _ => 0) (.slice (some ⟨wr.heap.size, 0, none⟩) 1 1) (.slice (some ⟨wr.heap.size + 1, 0, none⟩) 1 1)) 25)).heap.size by simp))
            have C3 : Blk (((wr.alloc (.cells #[.string p] 9)).alloc (.cells #[.string q] 9)).alloc (.cells (cellsCall 9 (fun _ => 0) (.slice (some ⟨wr.heap.size, 0, none⟩) 1 1) (.slice (some ⟨wr.heap.size + 1, 0, none⟩) 1 1)) 25)) (wr.heap.size + 2) 25 (cellsCall 9 (fun _ => 0) (.slice (some ⟨wr.heap.size, 0, none⟩) 1 1) (.slice (some ⟨wr.heap.size + 1, 0, none⟩) 1 1)) := by
              have := Blk.new ((wr.alloc (.cells #[.string p] 9)).alloc (.cells #[.string q] 9)) (cellsCall 9 (fun _ => 0) (.slice (some ⟨wr.heap.size, 0, none⟩) 1 1) (.slice (some ⟨wr.heap.size + 1, 0, none⟩) 1 1)) 25
              simpa using this
            clear ba bb bc bwr hQQ
            generalize (((wr.alloc (.cells #[.string p] 9)).alloc (.cells #[.string q] 9)).alloc (.cells (cellsCall 9 (fun _ => 0) (.slice (some ⟨wr.heap.size, 0, none⟩) 1 1) (.slice (some ⟨wr.heap.size + 1, 0, none⟩) 1 1)) 25)) = w3 at *
            generalize wr.heap.size = g3 at *
            have HF := Lib.hid (vformat10 9 (fun _ => 0) (some ⟨g3, 0, none⟩) 1 (some ⟨g3 + 1, 0, none⟩) 1 [p] [q] w3 w3.heap.size (Nat.le_refl _) HPP.out HQQ.out (by simp) (by simp) (fun s hs => by rw [List.mem_singleton.1 hs]; unfold maxLen; omega) (fun s hs => by rw [List.mem_singleton.1 hs]; unfold maxLen; omega) (fun _ _ => by decide) (HC.out _ b3) (HE.out _ b3).tab (HE.out _ b3).pow)
            refine HF.out.mono ?_
            rintro e w4 ⟨rfl, hb4⟩
            have C4 := C3.below hb4
            have b4 := below_then b3 hb4
            clear HF C3
            by_cases hbig : 128 < k ∨ 64 < j
            · obtain ⟨x1, x2⟩ := lim_big (p := p) (q := q) (by omega)
              rw [x1, x2]
              clear x1 x2
              rcases Nat.lt_or_ge 128 k with h1 | h1
              · clear hbig
                go_wp2_with fail
                refine (HAW.out _ b4).mono ?_
                rintro e w8 ⟨rfl, hb8⟩
                go_wp2_with fail
                go_ret
                exact ⟨rfl, below_then b4 hb8⟩
              · have h2 : 64 < j := by omega
                clear hbig
                go_wp2_with fail
                refine (HAW.out _ b4).mono ?_
                rintro e w8 ⟨rfl, hb8⟩
                go_wp2_with fail
                go_ret
                exact ⟨rfl, below_then b4 hb8⟩
            · have h1 : k ≤ 128 := by omega
              have h2 : j ≤ 64 := by omega
              have h0 := lim_ok (p := p) (q := q) (by omega) (by omega)
              have hI : I64A (fun _ => 0) := fun _ _ => (show I64 (0 : Int) from ⟨by decide, by decide⟩)
              have hts := callS_size h0 hI
              have HBK := Lib.hid (fun (z' : Int) (a' : Nat → Int) (ps' gs' : List ByteArray) (er : Int) (k : CIs (callS 9 (fun _ => 0) [p] [q]) z' a' ps' gs' er) => CIs.back h0 hI k)
              rw [h0]
              clear h0 hI hbig
              generalize callS 9 (fun _ => 0) [p] [q] = t at *
              go_wp2_with fail
              refine (vparse10 t hts _ (HE.out _ b4) (HC.out _ b4)).mono ?_
              rintro e w5 ⟨z2, a2, vp2, va2, ps2, gs2, er, rfl, hC, hop, hog, hb5⟩
              obtain ⟨e5, heq⟩ := HBK.out _ _ _ _ _ hC
              subst e5
              have HEQ := Lib.hid heq
              have l4 := hC.lens
              obtain ⟨P2, cp2, e1, hP2⟩ := hop.strs
              obtain ⟨A2, ca2, e2, hA2⟩ := hog.strs
              subst e1 e2
              have hal5 : Below w5.heap.size w5 (w5.alloc (.cells (cellsCall z2 a2 (.slice P2 ps2.length cp2) (.slice A2 gs2.length ca2)) 25)) := (Below.refl _ _).alloc (Nat.le_refl _) _
              have k6 := below_then (below_then hb4 hb5) hal5
              have b6 := below_then b3 k6
              have C6 := (C4.below hb5).below hal5
              have D6 := Blk.new w5 (cellsCall z2 a2 (.slice P2 ps2.length cp2) (.slice A2 gs2.length ca2)) 25
              have HSM := Lib.hid (rsameC 9 z2 (fun _ => 0) a2 (some ⟨g3, 0, none⟩) P2 1 cp2 (some ⟨g3 + 1, 0, none⟩) A2 1 ca2 [p] [q] ps2 gs2 (w5.alloc (.cells (cellsCall z2 a2 (.slice P2 ps2.length cp2) (.slice A2 gs2.length ca2)) 25)) (w5.alloc (.cells (cellsCall z2 a2 (.slice P2 ps2.length cp2) (.slice A2 gs2.length ca2)) 25)).heap.size (Nat.le_refl _) ((HPP.out.keep k6 (Nat.le_refl _)).more k6.size) ((HQQ.out.keep k6 (Nat.le_refl _)).more k6.size) ((hP2.keep hal5 (Nat.le_refl _)).more hal5.size) ((hA2.keep hal5 (Nat.le_refl _)).more hal5.size) (by simp) (by simp) l4.1 l4.2)
              clear heq hC hop hog hP2 hA2 hal5 C4 hb5 l4 hb4
              have q0 := C6.cell 0
              have q1 := C6.cell 1
              have q2 := C6.cell 2
              have q3 := C6.cell 3
              have q4 := C6.cell 4
              have q5 := C6.cell 5
              have q6 := C6.cell 6
              have r0 := D6.cell 0
              have r1 := D6.cell 1
              have r2 := D6.cell 2
              have r3 := D6.cell 3
              have r4 := D6.cell 4
              have r5 := D6.cell 5
              have r6 := D6.cell 6
              go_wp2_with fail
              refine HSM.out.mono ?_
              rintro e w7 ⟨r, rfl, hr, hb7⟩
              obtain rfl : r = true := hr.2 HEQ.out
              clear hr
              have b7 := below_then b6 hb7
              go_wp2_with fail
              refine (HAW.out _ b7).mono ?_
              rintro e w8 ⟨rfl, hb8⟩
              go_wp2_with fail
              go_ret
              exact ⟨rfl, below_then b7 hb8⟩
end Go.Proofs.YtokkbboahajbhaaDoor
/- The walk of CallLimits, with what the row lists. -/

/- Texts of one proof, laid together. -/
import Derived.Test.YtnpaoepkpdileaaDoorFieldROne
import Derived.Deep.RegionHeld3
import Derived.Test.YtnpaoepkpdileaaDoorFieldFmt
import Derived.Deep.RegionLaw
import Derived.Test.YtnpaoepkpdileaaDoorFieldAwake
import Derived.Test.YtnpaoepkpdileaaDoorSrcContext
import Derived.Test.YtnpaoepkpdileaaDoorSrcTest
import Derived.Test.YtnpaoepkpdileaaDoorOwn
import Derived.Test.YtnpaoepkpdileaaDoorFrame
import Derived.Lib.SmallJoins
import Derived.Test.YtnpaoepkpdileaaDoorRows
import Derived.Test.YtnpaoepkpdileaaDoorFieldTab
import Derived.Test.YtnpaoepkpdileaaDoorAtoiPlain
import Derived.Test.YtnpaoepkpdileaaDoorQuote
import Derived.Test.YtnpaoepkpdileaaDoorItoa
import Derived.Test.YtnpaoepkpdileaaDoorBlk
import Derived.Test.YtnpaoepkpdileaaDoorShelf
import Derived.Deep.DrawnRows
import Derived.Handed
import Derived.HandedShaped
import Derived.SizedLaws
import Derived.Shelf.Vars
import Derived.LaidLaws
/- Eval of the reference returns evalF. -/
namespace Go.Proofs.YtnpaoepkpdileaaDoor
open Go.RowKit
theorem ld_any {P : Program} {w : World} {a : Addr} {ty : TypeId} {cs : Array Value} {d : TypeDesc} (h : ∀ j v, cs.toList[j]? = some v → w.cell? (a.add j) = some v)
    (hu : P.underlying ty = some d) (hd : (match d with | .struct _ | .array _ _ => true | _ => false) = true) (hi : (P.info? ty).map (·.size) = some cs.size) :
    (loadVar ty a).run P w = .ok (.agg cs) w := by
  have hl : (loadCells a cs.toList.length).run P w = .ok cs.toList.toArray w := run_loadCells_list (P := P) w a cs.toList h
  cases hq : P.info? ty with
  | none => simp [hq] at hi
  | some i =>
    have hs : i.size = cs.size := by simpa [hq] using hi
    have hagg : (isAgg ty).run P w = .ok true w := by
      unfold isAgg
      rw [Sem.run_bind, run_underlying hu w]
      cases d <;> simp_all
    simp only [Array.length_toList, Array.toArray_toList] at hl
    simp [loadVar, Sem.run_bind, hagg, sizeOf, typeInfo, hq, hs, hl]
theorem ld_test {w : World} {g : Nat} {fd op nu : Int} {tx : ByteArray} {ot : Int} (h : TestB w g fd op nu tx ot) : (loadVar 23 ⟨g, 0, none⟩).run Tryd.prog w = .ok (.agg (testC fd op nu tx ot)) w := run_loadVar_row w g _ _ _ _ _ h Tryd.underlying23 rfl (test_sz _ _ _ _ _)
theorem ld_item {w : World} {a : Addr} {i : Itm} {r : IRest} (h : ∀ j, j < 13 → w.cell? (a.add j) = (itemC i r)[j]?) : (loadVar 69 a).run Tryd.prog w = .ok (.agg (itemC i r)) w :=
  ld_any (fun j v hv => by
    have hj : j < 13 := by
      rcases Nat.lt_or_ge j 13 with hj | hj
      · exact hj
      · rw [List.getElem?_eq_none (by show 13 ≤ j; exact hj)] at hv; cases hv
    rw [h j hj]; simpa using hv) Tryd.underlying69 rfl (item_sz _ _)
theorem file_sz (x y : Int) : (Tryd.prog.info? 25).map (·.size) = some (#[Value.int .i64 x, .int .i64 y] : Array Value).size := by show _ = some 2; kernel_rfl
theorem ld_file {w : World} {b o : Nat} {x y : Int} (h5 : w.cell? ⟨b, o, none⟩ = some (.int .i64 x)) (h6 : w.cell? ⟨b, o + 1, none⟩ = some (.int .i64 y)) : (loadVar 25 ⟨b, o, none⟩).run Tryd.prog w = .ok (.agg #[.int .i64 x, .int .i64 y]) w :=
  ld_any (fun j v hv => by
    match j with
    | 0 => simp at hv; subst hv; exact h5
    | 1 => simp at hv; subst hv; exact h6
    | j + 2 => simp at hv) Tryd.underlying25 rfl (file_sz _ _)
theorem lv33 (a : Addr) (w : World) : (loadVar 33 a).run Tryd.prog w = (load a).run Tryd.prog w := by
  unfold loadVar
  simp [go_sem]
theorem holdR {wr x : World} {g g2 : Nat} {fd op nu : Int} {tx : ByteArray} {ot : Int} {c : Ctx} {r : CRest} {it : Value} {p : Addr} {i : Itm} {ir : IRest} (hT : TestB wr g fd op nu tx ot) (hC : CtxB wr g2 c r it) (hcl : ∀ j, j < 13 → wr.cell? (p.add j) = (itemC i ir)[j]?) (hp : p.block < wr.heap.size) (hb : Below wr.heap.size wr x) :
    Below wr.heap.size wr x ∧ (loadVar 23 ⟨g, 0, none⟩).run Tryd.prog x = .ok (.agg (testC fd op nu tx ot)) x ∧ (loadVar 35 ⟨g2, 0, none⟩).run Tryd.prog x = .ok (.agg (ctxC c r it)) x ∧ (loadVar 69 p).run Tryd.prog x = .ok (.agg (itemC i ir)) x ∧ (loadVar 25 ⟨p.block, p.off + 5, none⟩).run Tryd.prog x = .ok (.agg #[.int .i64 i.dev, .int .i64 i.ino]) x ∧ x.cell? ⟨g2, 23, none⟩ = some it := by
  have hcx : ∀ j, j < 13 → x.cell? (p.add j) = (itemC i ir)[j]? := fun j hj => (hb.cell (by rw [add_block]; exact hp)).trans (hcl j hj)
  exact ⟨hb, ld_test (hT.below hb), ld_ctx (hC.below hb), ld_item hcx, ld_file (hcx 5 (by omega)) (hcx 6 (by omega)), (show CtxB x g2 c r it from hC.below hb).items⟩
theorem refl_drew (w : World) : Below w.heap.size w w.drew := (Below.refl _ _).drew
attribute [local irreducible] ctxC textB itemB checkF anyK soundB holdsF evalF hasF
attribute [-go_sem] loadVar
attribute [local go_sem] lv3 lv9 lv33
set_option maxRecDepth 100000 in
set_option maxHeartbeats 16000000 in
theorem revalF (c : Ctx) (r : CRest) (A : Option Addr) (n cp : Nat) (L : List (Itm × IRest)) (hn : n = L.length) (hlen : n ≤ 1000000) (fd op nu : Int) (tx : ByteArray) (ot : Int) (hx : tx.size ≤ maxLen) (w : World) (hL : ItemsAt w w.heap.size A L) :
    Calls Tryd.prog 33 #[testV fd op nu tx ot, ctxV c r (.slice A n cp)] w fun e w' => e = .returned (.bool (evalF c (L.map (·.1)) fd op nu tx ot)) ∧ Below w.heap.size w w' := by
  obtain ⟨hT, hC, hB, hS⟩ := boxTC w fd op nu tx ot c r (.slice A n cp)
  have HK := Lib.hid (fun W => rsoundF fd op nu tx ot hx W)
  have HLN := Lib.hid hn
  have HE1 := Lib.hid (show (soundB fd op nu tx ot = false ∨ hasF c fd = false ∨ (ot ≠ 0 ∧ hasF c ot = false)) → evalF c (L.map (·.1)) fd op nu tx ot = false from fun h => by unfold evalF; rw [if_pos h])
  have HE2 := Lib.hid (show ¬ (soundB fd op nu tx ot = false ∨ hasF c fd = false ∨ (ot ≠ 0 ∧ hasF c ot = false)) → (itemB fd = false ∧ itemB ot = false) → evalF c (L.map (·.1)) fd op nu tx ot = holdsF c fd op nu tx ot Itm.none from fun h k => by unfold evalF; rw [if_neg h, if_pos k])
  have HE3 := Lib.hid (show ¬ (soundB fd op nu tx ot = false ∨ hasF c fd = false ∨ (ot ≠ 0 ∧ hasF c ot = false)) → ¬ (itemB fd = false ∧ itemB ot = false) → evalF c (L.map (·.1)) fd op nu tx ot = (L.map (·.1)).any fun i => liveB i && holdsF c fd op nu tx ot i from fun h k => by unfold evalF; rw [if_neg h, if_neg k])
  have HHF := Lib.hid (fun W => rhasF c r (.slice A n cp) fd W)
  have HHO := Lib.hid (fun W => rhasF c r (.slice A n cp) ot W)
  have HC := Lib.hid hC
  have HB := Lib.hid hB
  have HLI := Lib.hid hL
  have hlT0 := ld_test hT
  clear hC hB hL hn hS
  go_enter Tryd.func33, Tryd.ntmps33
  go_wp2_with fail
  generalize (w.alloc (.cells (testC fd op nu tx ot) 23)).alloc (.cells (ctxC c r (.slice A n cp)) 35) = W at *
  refine (HK.out _).mono ?_
  rintro e w1 ⟨rfl, hb1⟩
  have hT1 : TestB w1 w.heap.size fd op nu tx ot := hT.below hb1
  have HC1 := Lib.hid (show CtxB w1 (w.heap.size + 1) c r (.slice A n cp) from HC.out.below hb1)
  have HB1 := Lib.hid (HB.out.trans (hb1.mono HB.out.size))
  clear hT HC HB HK hb1 hlT0
  have HT1 := Lib.hid hT1
  have q0 := hT1.c0
  have q4 := hT1.c4
  clear hT1
  cases hs : soundB fd op nu tx ot
  · have HF := Lib.hid (HE1.out (.inl hs))
    clear hs
    go_wp2_with fail
    go_ret
    exact ⟨ret_b HF.out.symm, HB1.out⟩
  · obtain ⟨rf, ro, rt⟩ := sound_ranges hs
    have HV := Lib.hid (fun i ir W => roneF c r (.slice A n cp) fd op nu tx ot i ir rf ro rt W)
    have HI1 := Lib.hid (fun W => ritemF fd W)
    have HI2 := Lib.hid (fun W => ritemF ot W)
    have HSO := Lib.hid hs
    clear rf ro rt hs
    go_wp2_with (((with_reducible refine load_blk_g ?_ 35 (.tmp 3) ?_ HC1.out ?_ _ Tryd.underlying35 ?_ ?_ ?_); (iterate 4 rfl); exact ctx_sz _ _ _))
    refine (HHF.out _).mono ?_
    rintro e w2 ⟨rfl, hb2⟩
    have hT2 : TestB w2 w.heap.size fd op nu tx ot := HT1.out.below hb2
    have HC2 := Lib.hid (show CtxB w2 (w.heap.size + 1) c r (.slice A n cp) from HC1.out.below hb2)
    have HB2 := Lib.hid (below_then HB1.out hb2)
    clear HT1 HC1 HB1 hb2 q0 q4
    have HT2 := Lib.hid hT2
    have q0 := hT2.c0
    have q4 := hT2.c4
    clear hT2
    cases h1 : hasF c fd
    · have HF := Lib.hid (HE1.out (.inr (.inl h1)))
      clear h1
      go_wp2_with fail
      go_ret
      exact ⟨ret_b HF.out.symm, HB2.out⟩
    · by_cases h0 : ot = 0
      · have HG := Lib.hid (show ¬ (soundB fd op nu tx ot = false ∨ hasF c fd = false ∨ (ot ≠ 0 ∧ hasF c ot = false)) by rw [HSO.out, h1]; simp [h0])
        have b0 : (ot != 0) = false := by simpa using h0
        clear h1 h0
        go_wp2_with fail
        refine (HI1.out _).mono ?_
        rintro e w9 ⟨rfl, rfl⟩
        cases hf : itemB fd
        · cases ht : itemB ot
          · have HF := Lib.hid (HE2.out HG.out ⟨hf, ht⟩)
            rw [ht] at HI2
            clear hf ht
            go_wp2_with fail
            refine (HI2.out _).mono ?_
            rintro e w9 ⟨rfl, rfl⟩
            have hlT := ld_test HT2.out
            go_wp2_with (((with_reducible refine load_blk ?_ 35 (.tmp 3) ?_ HC2.out ?_ _ Tryd.underlying35 ?_ ?_ ?_); (iterate 4 rfl); exact ctx_sz _ _ _))
            refine (HV.out Itm.none irZ _).mono ?_
            rintro e w10 ⟨rfl, hb10⟩
            have HB10 := Lib.hid (below_then HB2.out hb10)
            go_wp2_with fail
            go_ret
            exact ⟨ret_b HF.out.symm, HB10.out⟩
          · have HF := Lib.hid (HE3.out HG.out (fun h => by rw [ht] at h; cases h.2))
            rw [ht] at HI2
            clear hf ht
            go_wp2_with fail
            refine (HI2.out _).mono ?_
            rintro e w9 ⟨rfl, rfl⟩
            go_wp2_with fail
            go_loopw [5] (fun i wr' => ∃ k : Nat, k ≤ L.length ∧ i = .int .i64 (k : Int) ∧ Hid (∀ j (hj : j < L.length), j < k → (liveB (L[j]'hj).1 && holdsF c fd op nu tx ot (L[j]'hj).1) = false) ∧ Below w2.heap.size w2 wr') (fun i _ => L.length - (intOf i).toNat)
            case atStart => exact ⟨0, Nat.zero_le _, rfl, fun j _ hj => by omega, Below.refl _ _⟩
            case round =>
              obtain ⟨k, hk, rfl, hno, hb⟩ := hrel
              have HBR := Lib.hid (below_then HB2.out hb)
              have hln : n = L.length := HLN.out
              subst hln
              have hCR : CtxB wr (w.heap.size + 1) c r (.slice A L.length cp) := HC2.out.below hb
              have qi := hCR.items
              by_cases hlt : k < L.length
              · obtain ⟨ad, e, hadb, hcl⟩ := (HLI.out.keep HBR.out (Nat.le_refl _)) k hlt
                cases e
                have HTR := Lib.hid (show TestB wr w.heap.size fd op nu tx ot from HT2.out.below hb)
                have HKR := Lib.hid (fun (x : World) (h : Below wr.heap.size wr x) => holdR HTR.out hCR hcl (by rw [add_block]; have := HBR.out.size; omega) h)
                obtain ⟨_, hlT', hlC', hlI', hlF', _⟩ := HKR.out wr (Below.refl _ _)
                have HOLD := Lib.hid hb
                clear hcl hb q0 q4
                generalize hy : L[k]'hlt = y at *
                have HY := Lib.hid hy
                clear hy
                obtain ⟨⟨dev, ino, uid, gid, kind⟩, ⟨gv, pa, dd, di, nm, ro, mo, pe⟩⟩ := y
                simp only at hlF' HKR
                by_cases hd : dev = 0
                · subst hd
                  by_cases hi : ino = 0
                  · subst hi
                    have HN := Lib.hid (show ∀ j (hj : j < L.length), j < k + 1 → (liveB (L[j]'hj).1 && holdsF c fd op nu tx ot (L[j]'hj).1) = false from fun j hj hjk => by
                      by_cases e : j = k
                      · subst e; rw [HY.out]; rfl
                      · exact hno.out j hj (by omega))
                    have HQN := Lib.hid (fun n => (HKR.out (wr.drewN n) (below_drewN (Below.refl _ _) n)).2.2.2.2.1)
                    clear HKR hlT' hlC' hlI' hlF'
                    go_wp2_with fail
                    have hqn : ∀ n, (loadVar 25 ⟨(ad.add (k * 13)).block, (ad.add (k * 13)).off + 5, none⟩).run Tryd.prog (wr.drewN n) = .ok (.agg #[.int .i64 0, .int .i64 0]) (wr.drewN n) := fun n => HQN.out n
                    go_quiet (fail)
                    go_wp2_with fail
                    go_roundw
                    case rel => exact ⟨k + 1, by omega, by go_num, HN, below_drewN HOLD.out _⟩
                    case measure => simp [intOf]; omega
                  · have hib : (ino == 0) = false := by simpa using hi
                    have HV1 := Lib.hid (fun W => HV.out ⟨0, ino, uid, gid, kind⟩ ⟨gv, pa, dd, di, nm, ro, mo, pe⟩ W)
                    go_wp2_with fail
                    go_region_held3 (fun w' => Below wr.heap.size wr w' ∧ (loadVar 23 ⟨w.heap.size, 0, none⟩).run Tryd.prog w' = .ok (.agg (testC fd op nu tx ot)) w' ∧ (loadVar 35 ⟨w.heap.size + 1, 0, none⟩).run Tryd.prog w' = .ok (.agg (ctxC c r (.slice (some ad) L.length cp))) w' ∧ (loadVar 69 (ad.add (k * 13))).run Tryd.prog w' = .ok (.agg (itemC ⟨0, ino, uid, gid, kind⟩ ⟨gv, pa, dd, di, nm, ro, mo, pe⟩)) w' ∧ (loadVar 25 ⟨(ad.add (k * 13)).block, (ad.add (k * 13)).off + 5, none⟩).run Tryd.prog w' = .ok (.agg #[.int .i64 0, .int .i64 ino]) w' ∧ w'.cell? ⟨w.heap.size + 1, 23, none⟩ = some (.slice (some ad) L.length cp))
                      (first | exact HKR.out _ (refl_drew _) | exact HKR.out _ (below_then (And.left (by assumption)) hb5))
                      ((go_at_call 59; refine (HV1.out _).mono ?_; rintro e w5 ⟨rfl, hb5⟩))
                    all_goals
                      cases hh : holdsF c fd op nu tx ot ⟨0, ino, uid, gid, kind⟩
                      · have HN := Lib.hid (show ∀ j (hj : j < L.length), j < k + 1 → (liveB (L[j]'hj).1 && holdsF c fd op nu tx ot (L[j]'hj).1) = false from fun j hj hjk => by
                          by_cases e : j = k
                          · subst e; rw [HY.out, hh]; simp
                          · exact hno.out j hj (by omega))
                        clear hh
                        go_wp2_with fail
                        go_roundw
                        case rel => exact ⟨k + 1, by omega, by go_num, HN, below_then HOLD.out (And.left (by assumption))⟩
                        case measure => simp [intOf]; omega
                      · have HYES := Lib.hid (HF.out.trans (any_yes hlt (by rw [HY.out, hh]; unfold liveB; simp [hi])))
                        clear hh
                        go_wp2_with fail
                        go_ret
                        exact ⟨ret_b HYES.out.symm, below_then HBR.out (And.left (by assumption))⟩
                · have hdb : (dev == 0) = false := by simpa using hd
                  have HV1 := Lib.hid (fun W => HV.out ⟨dev, ino, uid, gid, kind⟩ ⟨gv, pa, dd, di, nm, ro, mo, pe⟩ W)
                  go_wp2_with fail
                  go_region_held3 (fun w' => Below wr.heap.size wr w' ∧ (loadVar 23 ⟨w.heap.size, 0, none⟩).run Tryd.prog w' = .ok (.agg (testC fd op nu tx ot)) w' ∧ (loadVar 35 ⟨w.heap.size + 1, 0, none⟩).run Tryd.prog w' = .ok (.agg (ctxC c r (.slice (some ad) L.length cp))) w' ∧ (loadVar 69 (ad.add (k * 13))).run Tryd.prog w' = .ok (.agg (itemC ⟨dev, ino, uid, gid, kind⟩ ⟨gv, pa, dd, di, nm, ro, mo, pe⟩)) w' ∧ (loadVar 25 ⟨(ad.add (k * 13)).block, (ad.add (k * 13)).off + 5, none⟩).run Tryd.prog w' = .ok (.agg #[.int .i64 dev, .int .i64 ino]) w' ∧ w'.cell? ⟨w.heap.size + 1, 23, none⟩ = some (.slice (some ad) L.length cp))
                    (first | exact HKR.out _ (refl_drew _) | exact HKR.out _ (below_then (And.left (by assumption)) hb5))
                    ((go_at_call 59; refine (HV1.out _).mono ?_; rintro e w5 ⟨rfl, hb5⟩))
                  all_goals
                    cases hh : holdsF c fd op nu tx ot ⟨dev, ino, uid, gid, kind⟩
                    · have HN := Lib.hid (show ∀ j (hj : j < L.length), j < k + 1 → (liveB (L[j]'hj).1 && holdsF c fd op nu tx ot (L[j]'hj).1) = false from fun j hj hjk => by
                        by_cases e : j = k
                        · subst e; rw [HY.out, hh]; simp
                        · exact hno.out j hj (by omega))
                      clear hh
                      go_wp2_with fail
                      go_roundw
                      case rel => exact ⟨k + 1, by omega, by go_num, HN, below_then HOLD.out (And.left (by assumption))⟩
                      case measure => simp [intOf]; omega
                    · have HYES := Lib.hid (HF.out.trans (any_yes hlt (by rw [HY.out, hh]; unfold liveB; simp [hd])))
                      clear hh
                      go_wp2_with fail
                      go_ret
                      exact ⟨ret_b HYES.out.symm, below_then HBR.out (And.left (by assumption))⟩
              · have HNO := Lib.hid (HF.out.trans (any_no fun j hj => hno.out j hj (by omega)))
                clear hb q0 q4
                go_wp2_with fail
                go_ret
                exact ⟨ret_b HNO.out.symm, HBR.out⟩
        · have HF := Lib.hid (HE3.out HG.out (fun h => by rw [hf] at h; cases h.1))
          clear hf
          go_wp2_with fail
          go_loopw [5] (fun i wr' => ∃ k : Nat, k ≤ L.length ∧ i = .int .i64 (k : Int) ∧ Hid (∀ j (hj : j < L.length), j < k → (liveB (L[j]'hj).1 && holdsF c fd op nu tx ot (L[j]'hj).1) = false) ∧ Below w2.heap.size w2 wr') (fun i _ => L.length - (intOf i).toNat)
          case atStart => exact ⟨0, Nat.zero_le _, rfl, fun j _ hj => by omega, Below.refl _ _⟩
          case round =>
            obtain ⟨k, hk, rfl, hno, hb⟩ := hrel
            have HBR := Lib.hid (below_then HB2.out hb)
            have hln : n = L.length := HLN.out
            subst hln
            have hCR : CtxB wr (w.heap.size + 1) c r (.slice A L.length cp) := HC2.out.below hb
            have qi := hCR.items
            by_cases hlt : k < L.length
            · obtain ⟨ad, e, hadb, hcl⟩ := (HLI.out.keep HBR.out (Nat.le_refl _)) k hlt
              cases e
              have HTR := Lib.hid (show TestB wr w.heap.size fd op nu tx ot from HT2.out.below hb)
              have HKR := Lib.hid (fun (x : World) (h : Below wr.heap.size wr x) => holdR HTR.out hCR hcl (by rw [add_block]; have := HBR.out.size; omega) h)
              obtain ⟨_, hlT', hlC', hlI', hlF', _⟩ := HKR.out wr (Below.refl _ _)
              have HOLD := Lib.hid hb
              clear hcl hb q0 q4
              generalize hy : L[k]'hlt = y at *
              have HY := Lib.hid hy
              clear hy
              obtain ⟨⟨dev, ino, uid, gid, kind⟩, ⟨gv, pa, dd, di, nm, ro, mo, pe⟩⟩ := y
              simp only at hlF' HKR
              by_cases hd : dev = 0
              · subst hd
                by_cases hi : ino = 0
                · subst hi
                  have HN := Lib.hid (show ∀ j (hj : j < L.length), j < k + 1 → (liveB (L[j]'hj).1 && holdsF c fd op nu tx ot (L[j]'hj).1) = false from fun j hj hjk => by
                    by_cases e : j = k
                    · subst e; rw [HY.out]; rfl
                    · exact hno.out j hj (by omega))
                  have HQN := Lib.hid (fun n => (HKR.out (wr.drewN n) (below_drewN (Below.refl _ _) n)).2.2.2.2.1)
                  clear HKR hlT' hlC' hlI' hlF'
                  go_wp2_with fail
                  have hqn : ∀ n, (loadVar 25 ⟨(ad.add (k * 13)).block, (ad.add (k * 13)).off + 5, none⟩).run Tryd.prog (wr.drewN n) = .ok (.agg #[.int .i64 0, .int .i64 0]) (wr.drewN n) := fun n => HQN.out n
                  go_quiet (fail)
                  go_wp2_with fail
                  go_roundw
                  case rel => exact ⟨k + 1, by omega, by go_num, HN, below_drewN HOLD.out _⟩
                  case measure => simp [intOf]; omega
                · have hib : (ino == 0) = false := by simpa using hi
                  have HV1 := Lib.hid (fun W => HV.out ⟨0, ino, uid, gid, kind⟩ ⟨gv, pa, dd, di, nm, ro, mo, pe⟩ W)
                  go_wp2_with fail
                  go_region_held3 (fun w' => Below wr.heap.size wr w' ∧ (loadVar 23 ⟨w.heap.size, 0, none⟩).run Tryd.prog w' = .ok (.agg (testC fd op nu tx ot)) w' ∧ (loadVar 35 ⟨w.heap.size + 1, 0, none⟩).run Tryd.prog w' = .ok (.agg (ctxC c r (.slice (some ad) L.length cp))) w' ∧ (loadVar 69 (ad.add (k * 13))).run Tryd.prog w' = .ok (.agg (itemC ⟨0, ino, uid, gid, kind⟩ ⟨gv, pa, dd, di, nm, ro, mo, pe⟩)) w' ∧ (loadVar 25 ⟨(ad.add (k * 13)).block, (ad.add (k * 13)).off + 5, none⟩).run Tryd.prog w' = .ok (.agg #[.int .i64 0, .int .i64 ino]) w' ∧ w'.cell? ⟨w.heap.size + 1, 23, none⟩ = some (.slice (some ad) L.length cp))
                    (first | exact HKR.out _ (refl_drew _) | exact HKR.out _ (below_then (And.left (by assumption)) hb5))
                    ((go_at_call 59; refine (HV1.out _).mono ?_; rintro e w5 ⟨rfl, hb5⟩))
                  all_goals
                    cases hh : holdsF c fd op nu tx ot ⟨0, ino, uid, gid, kind⟩
                    · have HN := Lib.hid (show ∀ j (hj : j < L.length), j < k + 1 → (liveB (L[j]'hj).1 && holdsF c fd op nu tx ot (L[j]'hj).1) = false from fun j hj hjk => by
                        by_cases e : j = k
                        · subst e; rw [HY.out, hh]; simp
                        · exact hno.out j hj (by omega))
                      clear hh
                      go_wp2_with fail
                      go_roundw
                      case rel => exact ⟨k + 1, by omega, by go_num, HN, below_then HOLD.out (And.left (by assumption))⟩
                      case measure => simp [intOf]; omega
                    · have HYES := Lib.hid (HF.out.trans (any_yes hlt (by rw [HY.out, hh]; unfold liveB; simp [hi])))
                      clear hh
                      go_wp2_with fail
                      go_ret
                      exact ⟨ret_b HYES.out.symm, below_then HBR.out (And.left (by assumption))⟩
              · have hdb : (dev == 0) = false := by simpa using hd
                have HV1 := Lib.hid (fun W => HV.out ⟨dev, ino, uid, gid, kind⟩ ⟨gv, pa, dd, di, nm, ro, mo, pe⟩ W)
                go_wp2_with fail
                go_region_held3 (fun w' => Below wr.heap.size wr w' ∧ (loadVar 23 ⟨w.heap.size, 0, none⟩).run Tryd.prog w' = .ok (.agg (testC fd op nu tx ot)) w' ∧ (loadVar 35 ⟨w.heap.size + 1, 0, none⟩).run Tryd.prog w' = .ok (.agg (ctxC c r (.slice (some ad) L.length cp))) w' ∧ (loadVar 69 (ad.add (k * 13))).run Tryd.prog w' = .ok (.agg (itemC ⟨dev, ino, uid, gid, kind⟩ ⟨gv, pa, dd, di, nm, ro, mo, pe⟩)) w' ∧ (loadVar 25 ⟨(ad.add (k * 13)).block, (ad.add (k * 13)).off + 5, none⟩).run Tryd.prog w' = .ok (.agg #[.int .i64 dev, .int .i64 ino]) w' ∧ w'.cell? ⟨w.heap.size + 1, 23, none⟩ = some (.slice (some ad) L.length cp))
                  (first | exact HKR.out _ (refl_drew _) | exact HKR.out _ (below_then (And.left (by assumption)) hb5))
                  ((go_at_call 59; refine (HV1.out _).mono ?_; rintro e w5 ⟨rfl, hb5⟩))
                all_goals
                  cases hh : holdsF c fd op nu tx ot ⟨dev, ino, uid, gid, kind⟩
                  · have HN := Lib.hid (show ∀ j (hj : j < L.length), j < k + 1 → (liveB (L[j]'hj).1 && holdsF c fd op nu tx ot (L[j]'hj).1) = false from fun j hj hjk => by
                      by_cases e : j = k
                      · subst e; rw [HY.out, hh]; simp
                      · exact hno.out j hj (by omega))
                    clear hh
                    go_wp2_with fail
                    go_roundw
                    case rel => exact ⟨k + 1, by omega, by go_num, HN, below_then HOLD.out (And.left (by assumption))⟩
                    case measure => simp [intOf]; omega
                  · have HYES := Lib.hid (HF.out.trans (any_yes hlt (by rw [HY.out, hh]; unfold liveB; simp [hd])))
                    clear hh
                    go_wp2_with fail
                    go_ret
                    exact ⟨ret_b HYES.out.symm, below_then HBR.out (And.left (by assumption))⟩
            · have HNO := Lib.hid (HF.out.trans (any_no fun j hj => hno.out j hj (by omega)))
              clear hb q0 q4
              go_wp2_with fail
              go_ret
              exact ⟨ret_b HNO.out.symm, HBR.out⟩
      · have b0 : (ot != 0) = true := by simpa using h0
        have H0 := Lib.hid h0
        have H1 := Lib.hid h1
        clear h0 h1
        go_wp2_with (((with_reducible refine load_blk_g ?_ 35 (.tmp 3) ?_ HC2.out ?_ _ Tryd.underlying35 ?_ ?_ ?_); (iterate 4 rfl); exact ctx_sz _ _ _))
        refine (HHO.out _).mono ?_
        rintro e w3 ⟨rfl, hb3⟩
        have hT3 : TestB w3 w.heap.size fd op nu tx ot := HT2.out.below hb3
        have HC3 := Lib.hid (show CtxB w3 (w.heap.size + 1) c r (.slice A n cp) from HC2.out.below hb3)
        have HB3 := Lib.hid (below_then HB2.out hb3)
        clear HT2 HC2 HB2 hb3 q0 q4
        have HT3 := Lib.hid hT3
        have q0 := hT3.c0
        have q4 := hT3.c4
        clear hT3
        cases h2 : hasF c ot
        · have HF := Lib.hid (HE1.out (.inr (.inr ⟨H0.out, h2⟩)))
          clear h2
          go_wp2_with fail
          go_ret
          exact ⟨ret_b HF.out.symm, HB3.out⟩
        · have HG := Lib.hid (show ¬ (soundB fd op nu tx ot = false ∨ hasF c fd = false ∨ (ot ≠ 0 ∧ hasF c ot = false)) by rw [HSO.out, H1.out, h2]; simp)
          clear h2
          go_wp2_with fail
          refine (HI1.out _).mono ?_
          rintro e w9 ⟨rfl, rfl⟩
          cases hf : itemB fd
          · cases ht : itemB ot
            · have HF := Lib.hid (HE2.out HG.out ⟨hf, ht⟩)
              rw [ht] at HI2
              clear hf ht
              go_wp2_with fail
              refine (HI2.out _).mono ?_
              rintro e w9 ⟨rfl, rfl⟩
              have hlT := ld_test HT3.out
              go_wp2_with (((with_reducible refine load_blk ?_ 35 (.tmp 3) ?_ HC3.out ?_ _ Tryd.underlying35 ?_ ?_ ?_); (iterate 4 rfl); exact ctx_sz _ _ _))
              refine (HV.out Itm.none irZ _).mono ?_
              rintro e w10 ⟨rfl, hb10⟩
              have HB10 := Lib.hid (below_then HB3.out hb10)
              go_wp2_with fail
              go_ret
              exact ⟨ret_b HF.out.symm, HB10.out⟩
            · have HF := Lib.hid (HE3.out HG.out (fun h => by rw [ht] at h; cases h.2))
              rw [ht] at HI2
              clear hf ht
              go_wp2_with fail
              refine (HI2.out _).mono ?_
              rintro e w9 ⟨rfl, rfl⟩
              go_wp2_with fail
              go_loopw [5] (fun i wr' => ∃ k : Nat, k ≤ L.length ∧ i = .int .i64 (k : Int) ∧ Hid (∀ j (hj : j < L.length), j < k → (liveB (L[j]'hj).1 && holdsF c fd op nu tx ot (L[j]'hj).1) = false) ∧ Below w3.heap.size w3 wr') (fun i _ => L.length - (intOf i).toNat)
              case atStart => exact ⟨0, Nat.zero_le _, rfl, fun j _ hj => by omega, Below.refl _ _⟩
              case round =>
                obtain ⟨k, hk, rfl, hno, hb⟩ := hrel
                have HBR := Lib.hid (below_then HB3.out hb)
                have hln : n = L.length := HLN.out
                subst hln
                have hCR : CtxB wr (w.heap.size + 1) c r (.slice A L.length cp) := HC3.out.below hb
                have qi := hCR.items
                by_cases hlt : k < L.length
                · obtain ⟨ad, e, hadb, hcl⟩ := (HLI.out.keep HBR.out (Nat.le_refl _)) k hlt
                  cases e
                  have HTR := Lib.hid (show TestB wr w.heap.size fd op nu tx ot from HT3.out.below hb)
                  have HKR := Lib.hid (fun (x : World) (h : Below wr.heap.size wr x) => holdR HTR.out hCR hcl (by rw [add_block]; have := HBR.out.size; omega) h)
                  obtain ⟨_, hlT', hlC', hlI', hlF', _⟩ := HKR.out wr (Below.refl _ _)
                  have HOLD := Lib.hid hb
                  clear hcl hb q0 q4
                  generalize hy : L[k]'hlt = y at *
                  have HY := Lib.hid hy
                  clear hy
                  obtain ⟨⟨dev, ino, uid, gid, kind⟩, ⟨gv, pa, dd, di, nm, ro, mo, pe⟩⟩ := y
                  simp only at hlF' HKR
                  by_cases hd : dev = 0
                  · subst hd
                    by_cases hi : ino = 0
                    · subst hi
                      have HN := Lib.hid (show ∀ j (hj : j < L.length), j < k + 1 → (liveB (L[j]'hj).1 && holdsF c fd op nu tx ot (L[j]'hj).1) = false from fun j hj hjk => by
                        by_cases e : j = k
                        · subst e; rw [HY.out]; rfl
                        · exact hno.out j hj (by omega))
                      have HQN := Lib.hid (fun n => (HKR.out (wr.drewN n) (below_drewN (Below.refl _ _) n)).2.2.2.2.1)
                      clear HKR hlT' hlC' hlI' hlF'
                      go_wp2_with fail
                      have hqn : ∀ n, (loadVar 25 ⟨(ad.add (k * 13)).block, (ad.add (k * 13)).off + 5, none⟩).run Tryd.prog (wr.drewN n) = .ok (.agg #[.int .i64 0, .int .i64 0]) (wr.drewN n) := fun n => HQN.out n
                      go_quiet (fail)
                      go_wp2_with fail
                      go_roundw
                      case rel => exact ⟨k + 1, by omega, by go_num, HN, below_drewN HOLD.out _⟩
                      case measure => simp [intOf]; omega
                    · have hib : (ino == 0) = false := by simpa using hi
                      have HV1 := Lib.hid (fun W => HV.out ⟨0, ino, uid, gid, kind⟩ ⟨gv, pa, dd, di, nm, ro, mo, pe⟩ W)
                      go_wp2_with fail
                      go_region_held3 (fun w' => Below wr.heap.size wr w' ∧ (loadVar 23 ⟨w.heap.size, 0, none⟩).run Tryd.prog w' = .ok (.agg (testC fd op nu tx ot)) w' ∧ (loadVar 35 ⟨w.heap.size + 1, 0, none⟩).run Tryd.prog w' = .ok (.agg (ctxC c r (.slice (some ad) L.length cp))) w' ∧ (loadVar 69 (ad.add (k * 13))).run Tryd.prog w' = .ok (.agg (itemC ⟨0, ino, uid, gid, kind⟩ ⟨gv, pa, dd, di, nm, ro, mo, pe⟩)) w' ∧ (loadVar 25 ⟨(ad.add (k * 13)).block, (ad.add (k * 13)).off + 5, none⟩).run Tryd.prog w' = .ok (.agg #[.int .i64 0, .int .i64 ino]) w' ∧ w'.cell? ⟨w.heap.size + 1, 23, none⟩ = some (.slice (some ad) L.length cp))
                        (first | exact HKR.out _ (refl_drew _) | exact HKR.out _ (below_then (And.left (by assumption)) hb5))
                        ((go_at_call 59; refine (HV1.out _).mono ?_; rintro e w5 ⟨rfl, hb5⟩))
                      all_goals
                        cases hh : holdsF c fd op nu tx ot ⟨0, ino, uid, gid, kind⟩
                        · have HN := Lib.hid (show ∀ j (hj : j < L.length), j < k + 1 → (liveB (L[j]'hj).1 && holdsF c fd op nu tx ot (L[j]'hj).1) = false from fun j hj hjk => by
                            by_cases e : j = k
                            · subst e; rw [HY.out, hh]; simp
                            · exact hno.out j hj (by omega))
                          clear hh
                          go_wp2_with fail
                          go_roundw
                          case rel => exact ⟨k + 1, by omega, by go_num, HN, below_then HOLD.out (And.left (by assumption))⟩
                          case measure => simp [intOf]; omega
                        · have HYES := Lib.hid (HF.out.trans (any_yes hlt (by rw [HY.out, hh]; unfold liveB; simp [hi])))
                          clear hh
                          go_wp2_with fail
                          go_ret
                          exact ⟨ret_b HYES.out.symm, below_then HBR.out (And.left (by assumption))⟩
                  · have hdb : (dev == 0) = false := by simpa using hd
                    have HV1 := Lib.hid (fun W => HV.out ⟨dev, ino, uid, gid, kind⟩ ⟨gv, pa, dd, di, nm, ro, mo, pe⟩ W)
                    go_wp2_with fail
                    go_region_held3 (fun w' => Below wr.heap.size wr w' ∧ (loadVar 23 ⟨w.heap.size, 0, none⟩).run Tryd.prog w' = .ok (.agg (testC fd op nu tx ot)) w' ∧ (loadVar 35 ⟨w.heap.size + 1, 0, none⟩).run Tryd.prog w' = .ok (.agg (ctxC c r (.slice (some ad) L.length cp))) w' ∧ (loadVar 69 (ad.add (k * 13))).run Tryd.prog w' = .ok (.agg (itemC ⟨dev, ino, uid, gid, kind⟩ ⟨gv, pa, dd, di, nm, ro, mo, pe⟩)) w' ∧ (loadVar 25 ⟨(ad.add (k * 13)).block, (ad.add (k * 13)).off + 5, none⟩).run Tryd.prog w' = .ok (.agg #[.int .i64 dev, .int .i64 ino]) w' ∧ w'.cell? ⟨w.heap.size + 1, 23, none⟩ = some (.slice (some ad) L.length cp))
                      (first | exact HKR.out _ (refl_drew _) | exact HKR.out _ (below_then (And.left (by assumption)) hb5))
                      ((go_at_call 59; refine (HV1.out _).mono ?_; rintro e w5 ⟨rfl, hb5⟩))
                    all_goals
                      cases hh : holdsF c fd op nu tx ot ⟨dev, ino, uid, gid, kind⟩
                      · have HN := Lib.hid (show ∀ j (hj : j < L.length), j < k + 1 → (liveB (L[j]'hj).1 && holdsF c fd op nu tx ot (L[j]'hj).1) = false from fun j hj hjk => by
                          by_cases e : j = k
                          · subst e; rw [HY.out, hh]; simp
                          · exact hno.out j hj (by omega))
                        clear hh
                        go_wp2_with fail
                        go_roundw
                        case rel => exact ⟨k + 1, by omega, by go_num, HN, below_then HOLD.out (And.left (by assumption))⟩
                        case measure => simp [intOf]; omega
                      · have HYES := Lib.hid (HF.out.trans (any_yes hlt (by rw [HY.out, hh]; unfold liveB; simp [hd])))
                        clear hh
                        go_wp2_with fail
                        go_ret
                        exact ⟨ret_b HYES.out.symm, below_then HBR.out (And.left (by assumption))⟩
                · have HNO := Lib.hid (HF.out.trans (any_no fun j hj => hno.out j hj (by omega)))
                  clear hb q0 q4
                  go_wp2_with fail
                  go_ret
                  exact ⟨ret_b HNO.out.symm, HBR.out⟩
          · have HF := Lib.hid (HE3.out HG.out (fun h => by rw [hf] at h; cases h.1))
            clear hf
            go_wp2_with fail
            go_loopw [5] (fun i wr' => ∃ k : Nat, k ≤ L.length ∧ i = .int .i64 (k : Int) ∧ Hid (∀ j (hj : j < L.length), j < k → (liveB (L[j]'hj).1 && holdsF c fd op nu tx ot (L[j]'hj).1) = false) ∧ Below w3.heap.size w3 wr') (fun i _ => L.length - (intOf i).toNat)
            case atStart => exact ⟨0, Nat.zero_le _, rfl, fun j _ hj => by omega, Below.refl _ _⟩
            case round =>
              obtain ⟨k, hk, rfl, hno, hb⟩ := hrel
              have HBR := Lib.hid (below_then HB3.out hb)
              have hln : n = L.length := HLN.out
              subst hln
              have hCR : CtxB wr (w.heap.size + 1) c r (.slice A L.length cp) := HC3.out.below hb
              have qi := hCR.items
              by_cases hlt : k < L.length
              · obtain ⟨ad, e, hadb, hcl⟩ := (HLI.out.keep HBR.out (Nat.le_refl _)) k hlt
                cases e
                have HTR := Lib.hid (show TestB wr w.heap.size fd op nu tx ot from HT3.out.below hb)
                have HKR := Lib.hid (fun (x : World) (h : Below wr.heap.size wr x) => holdR HTR.out hCR hcl (by rw [add_block]; have := HBR.out.size; omega) h)
                obtain ⟨_, hlT', hlC', hlI', hlF', _⟩ := HKR.out wr (Below.refl _ _)
                have HOLD := Lib.hid hb
                clear hcl hb q0 q4
                generalize hy : L[k]'hlt = y at *
                have HY := Lib.hid hy
                clear hy
                obtain ⟨⟨dev, ino, uid, gid, kind⟩, ⟨gv, pa, dd, di, nm, ro, mo, pe⟩⟩ := y
                simp only at hlF' HKR
                by_cases hd : dev = 0
                · subst hd
                  by_cases hi : ino = 0
                  · subst hi
                    have HN := Lib.hid (show ∀ j (hj : j < L.length), j < k + 1 → (liveB (L[j]'hj).1 && holdsF c fd op nu tx ot (L[j]'hj).1) = false from fun j hj hjk => by
                      by_cases e : j = k
                      · subst e; rw [HY.out]; rfl
                      · exact hno.out j hj (by omega))
                    have HQN := Lib.hid (fun n => (HKR.out (wr.drewN n) (below_drewN (Below.refl _ _) n)).2.2.2.2.1)
                    clear HKR hlT' hlC' hlI' hlF'
                    go_wp2_with fail
                    have hqn : ∀ n, (loadVar 25 ⟨(ad.add (k * 13)).block, (ad.add (k * 13)).off + 5, none⟩).run Tryd.prog (wr.drewN n) = .ok (.agg #[.int .i64 0, .int .i64 0]) (wr.drewN n) := fun n => HQN.out n
                    go_quiet (fail)
                    go_wp2_with fail
                    go_roundw
                    case rel => exact ⟨k + 1, by omega, by go_num, HN, below_drewN HOLD.out _⟩
                    case measure => simp [intOf]; omega
                  · have hib : (ino == 0) = false := by simpa using hi
                    have HV1 := Lib.hid (fun W => HV.out ⟨0, ino, uid, gid, kind⟩ ⟨gv, pa, dd, di, nm, ro, mo, pe⟩ W)
                    go_wp2_with fail
                    go_region_held3 (fun w' => Below wr.heap.size wr w' ∧ (loadVar 23 ⟨w.heap.size, 0, none⟩).run Tryd.prog w' = .ok (.agg (testC fd op nu tx ot)) w' ∧ (loadVar 35 ⟨w.heap.size + 1, 0, none⟩).run Tryd.prog w' = .ok (.agg (ctxC c r (.slice (some ad) L.length cp))) w' ∧ (loadVar 69 (ad.add (k * 13))).run Tryd.prog w' = .ok (.agg (itemC ⟨0, ino, uid, gid, kind⟩ ⟨gv, pa, dd, di, nm, ro, mo, pe⟩)) w' ∧ (loadVar 25 ⟨(ad.add (k * 13)).block, (ad.add (k * 13)).off + 5, none⟩).run Tryd.prog w' = .ok (.agg #[.int .i64 0, .int .i64 ino]) w' ∧ w'.cell? ⟨w.heap.size + 1, 23, none⟩ = some (.slice (some ad) L.length cp))
                      (first | exact HKR.out _ (refl_drew _) | exact HKR.out _ (below_then (And.left (by assumption)) hb5))
                      ((go_at_call 59; refine (HV1.out _).mono ?_; rintro e w5 ⟨rfl, hb5⟩))
                    all_goals
                      cases hh : holdsF c fd op nu tx ot ⟨0, ino, uid, gid, kind⟩
                      · have HN := Lib.hid (show ∀ j (hj : j < L.length), j < k + 1 → (liveB (L[j]'hj).1 && holdsF c fd op nu tx ot (L[j]'hj).1) = false from fun j hj hjk => by
                          by_cases e : j = k
                          · subst e; rw [HY.out, hh]; simp
                          · exact hno.out j hj (by omega))
                        clear hh
                        go_wp2_with fail
                        go_roundw
                        case rel => exact ⟨k + 1, by omega, by go_num, HN, below_then HOLD.out (And.left (by assumption))⟩
                        case measure => simp [intOf]; omega
                      · have HYES := Lib.hid (HF.out.trans (any_yes hlt (by rw [HY.out, hh]; unfold liveB; simp [hi])))
                        clear hh
                        go_wp2_with fail
                        go_ret
                        exact ⟨ret_b HYES.out.symm, below_then HBR.out (And.left (by assumption))⟩
                · have hdb : (dev == 0) = false := by simpa using hd
                  have HV1 := Lib.hid (fun W => HV.out ⟨dev, ino, uid, gid, kind⟩ ⟨gv, pa, dd, di, nm, ro, mo, pe⟩ W)
                  go_wp2_with fail
                  go_region_held3 (fun w' => Below wr.heap.size wr w' ∧ (loadVar 23 ⟨w.heap.size, 0, none⟩).run Tryd.prog w' = .ok (.agg (testC fd op nu tx ot)) w' ∧ (loadVar 35 ⟨w.heap.size + 1, 0, none⟩).run Tryd.prog w' = .ok (.agg (ctxC c r (.slice (some ad) L.length cp))) w' ∧ (loadVar 69 (ad.add (k * 13))).run Tryd.prog w' = .ok (.agg (itemC ⟨dev, ino, uid, gid, kind⟩ ⟨gv, pa, dd, di, nm, ro, mo, pe⟩)) w' ∧ (loadVar 25 ⟨(ad.add (k * 13)).block, (ad.add (k * 13)).off + 5, none⟩).run Tryd.prog w' = .ok (.agg #[.int .i64 dev, .int .i64 ino]) w' ∧ w'.cell? ⟨w.heap.size + 1, 23, none⟩ = some (.slice (some ad) L.length cp))
                    (first | exact HKR.out _ (refl_drew _) | exact HKR.out _ (below_then (And.left (by assumption)) hb5))
                    ((go_at_call 59; refine (HV1.out _).mono ?_; rintro e w5 ⟨rfl, hb5⟩))
                  all_goals
                    cases hh : holdsF c fd op nu tx ot ⟨dev, ino, uid, gid, kind⟩
                    · have HN := Lib.hid (show ∀ j (hj : j < L.length), j < k + 1 → (liveB (L[j]'hj).1 && holdsF c fd op nu tx ot (L[j]'hj).1) = false from fun j hj hjk => by
                        by_cases e : j = k
                        · subst e; rw [HY.out, hh]; simp
                        · exact hno.out j hj (by omega))
                      clear hh
                      go_wp2_with fail
                      go_roundw
                      case rel => exact ⟨k + 1, by omega, by go_num, HN, below_then HOLD.out (And.left (by assumption))⟩
                      case measure => simp [intOf]; omega
                    · have HYES := Lib.hid (HF.out.trans (any_yes hlt (by rw [HY.out, hh]; unfold liveB; simp [hd])))
                      clear hh
                      go_wp2_with fail
                      go_ret
                      exact ⟨ret_b HYES.out.symm, below_then HBR.out (And.left (by assumption))⟩
              · have HNO := Lib.hid (HF.out.trans (any_no fun j hj => hno.out j hj (by omega)))
                clear hb q0 q4
                go_wp2_with fail
                go_ret
                exact ⟨ret_b HNO.out.symm, HBR.out⟩
end Go.Proofs.YtnpaoepkpdileaaDoor
/- Format of the reference. -/
namespace Go.Proofs.YtnpaoepkpdileaaDoor
open Go.RowKit
theorem nameF_nat {k : Nat} (h : 1 ≤ k) (h2 : k ≤ 22) : nameF k = fieldN k := by
  unfold nameF; rw [if_neg (by omega)]; simp
theorem test_drew {w : World} {g : Nat} {cs : Array Value} (h : Blk w g 23 cs) : Blk w.drew g 23 cs := h
attribute [local irreducible] checkF fieldN opN quoteS numS cellsN cellsO anyE nameF
set_option maxRecDepth 100000 in
set_option maxHeartbeats 8000000 in
theorem rformatF (fd op nu : Int) (tx : ByteArray) (ot : Int) (hi : I64 nu) (hx : tx.size ≤ maxLen) (w : World) : Calls Tryd.prog 30 #[testV fd op nu tx ot] w fun e w' => e = .returned (.tuple #[.string (testS fd op nu tx ot), .int .i64 (anyE fd op nu tx ot)]) ∧ Below w.heap.size w w' := by
  obtain ⟨hT, hB⟩ := boxT w fd op nu tx ot
  have HK := Lib.hid (fun l W => rcheckF fd op nu tx ot l hx W)
  go_enter Tryd.func30, Tryd.ntmps30
  go_wp2_with fail
  refine (HK.out _ _).mono ?_
  rintro e w1 ⟨rfl, hb⟩
  have hT1 := hT.below hb
  obtain ⟨q0, q1, q2, q3, q4⟩ := test_cells hT1
  have HB1 := Lib.hid (hB.trans (hb.mono hB.size))
  clear hT hB hb
  by_cases h3 : checkF fd op nu tx ot 3 = 0
  · have HE := Lib.hid (show anyE fd op nu tx ot = 0 by unfold anyE; rw [if_neg (by simp [h3]), h3])
    rw [h3]
    clear h3
    obtain ⟨l, hl⟩ := anyE_zero HE.out
    obtain ⟨c1, c2, c3', c4, c5, c6, c7⟩ := checkF_zero hl
    have r1 := allow_range c1
    obtain ⟨kf, rfl⟩ := Int.eq_ofNat_of_zero_le (show 0 ≤ fd by omega)
    obtain ⟨ko, rfl⟩ := Int.eq_ofNat_of_zero_le (show 0 ≤ op by omega)
    have HS := Lib.hid (testS_nat HE.out)
    have NF := Lib.hid (fun W => rnameF kf W)
    rw [nameF_nat (by omega) (by omega)] at NF
    have z1 := field_len kf
    have z2 := op_len ko
    have HOC := Lib.hid (cellsO_at (k := ko) (by omega))
    have lo : (ko : Int) < 9 := by omega
    have hcat : ¬ 9223372036854775807 < (fieldN kf).size + (opN ko).size := by omega
    have HC2 := Lib.hid c2
    have HC6 := Lib.hid c6
    clear hl c1 c2 c3' c4 c5 c6 c7 r1
    go_wp2_with fail
    go_region_law (first
      | (go_simp; go_at_call 22; refine (NF.out _).mono ?_; rintro e w5 ⟨rfl, hb5⟩; have hT5 := Blk.below (by first | exact hT5 | exact test_drew hT1) hb5; have HB5 := Lib.hid (below_then (by first | exact HB5.out | exact HB1.out.drew) hb5); obtain ⟨q0, q1, q2, q3, q4⟩ := test_cells hT5; (try (have hgo := Glob.below hgo hb5 (Nat.le_refl _); have hco := (hgo.cell ko).trans HOC.out)); go_simp)
      | (go_simp; go_at_call 45; refine (rops _).mono ?_; rintro e w5 ⟨rfl, hgo, hb5⟩; have hT5 := Blk.below (by first | exact hT5 | exact test_drew hT1) hb5; have HB5 := Lib.hid (below_then (by first | exact HB5.out | exact HB1.out.drew) hb5); obtain ⟨q0, q1, q2, q3, q4⟩ := test_cells hT5; have hco := (hgo.cell ko).trans HOC.out; go_simp))
    all_goals
      clear hco hgo
      by_cases hot : ot = 0
      · subst hot
        cases htx : textB (kf : Int)
        · have HV := Lib.hid (show valS kf nu tx 0 = numS nu by unfold valS; rw [if_neg (by simp), if_neg (by rw [htx]; decide)])
          have CT := Lib.hid (fun W => rtextF kf W)
          rw [htx] at CT
          have HI := Lib.hid (fun W => rnumber nu hi.1 hi.2 W)
          have z3 := numS_lenF nu hi.1 hi.2
          clear htx
          go_wp2_with fail
          refine (CT.out _).mono ?_
          rintro e w7 ⟨rfl, rfl⟩
          go_wp2_with fail
          refine (HI.out _).mono ?_
          rintro e w8 ⟨rfl, rfl⟩
          have z4 : (fieldN kf ++ opN ko).size ≤ 10 := by rw [ByteArray.size_append]; omega
          go_wp2_with fail
          go_ret2
          exact ⟨tup (by rw [HS.out, HV.out]) HE.out.symm, HB5.out⟩
        · have HV := Lib.hid (show valS kf nu tx 0 = quoteS tx by unfold valS; rw [if_neg (by simp), if_pos htx])
          have CT := Lib.hid (fun W => rtextF kf W)
          rw [htx] at CT
          have HQ := Lib.hid (fun W => rquote tx W hx)
          have hs6 : tx.size ≤ 640 := by rcases HC6.out with h | h; rw [htx] at h; cases h; exact h.2.2
          have z3 := quoteS_leF tx hs6
          clear htx
          go_wp2_with fail
          refine (CT.out _).mono ?_
          rintro e w7 ⟨rfl, rfl⟩
          go_wp2_with fail
          refine (HQ.out _).mono ?_
          rintro e w8 ⟨rfl, hb8⟩
          have HB8 := Lib.hid (below_then HB5.out hb8)
          have z4 : (fieldN kf ++ opN ko).size ≤ 10 := by rw [ByteArray.size_append]; omega
          go_wp2_with fail
          go_ret2
          exact ⟨tup (by rw [HS.out, HV.out]) HE.out.symm, HB8.out⟩
      · have r2 := allow_range (HC2.out.resolve_left hot).1
        have HV := Lib.hid (show valS kf nu tx ot = nameF ot by unfold valS; rw [if_pos hot]; unfold nameF; rw [if_neg (by omega)])
        have NO := Lib.hid (fun W => rnameF ot W)
        have z3 : (nameF ot).size ≤ 8 := by unfold nameF; rw [if_neg (by omega)]; exact field_len _
        have b0 : (ot != 0) = true := by simpa using hot
        clear hot
        go_wp2_with fail
        refine (NO.out _).mono ?_
        rintro e w8 ⟨rfl, hb8⟩
        have HB8 := Lib.hid (below_then HB5.out hb8)
        have z4 : (fieldN kf ++ opN ko).size ≤ 10 := by rw [ByteArray.size_append]; omega
        go_wp2_with fail
        go_ret2
        exact ⟨tup (by rw [HS.out, HV.out]) HE.out.symm, HB8.out⟩
  · have b3 : (checkF fd op nu tx ot 3 != 0) = true := by simpa using h3
    have H3 := Lib.hid h3
    have HT1 := Lib.hid hT1
    clear h3 hT1
    go_wp2_with fail
    refine (HK.out _ _).mono ?_
    rintro e w2 ⟨rfl, hb⟩
    have HB2 := Lib.hid (below_then HB1.out hb)
    by_cases h5 : checkF fd op nu tx ot 5 = 0
    · have HE := Lib.hid (show anyE fd op nu tx ot = 0 by unfold anyE; rw [if_pos ⟨H3.out, h5⟩])
      have hT1 := HT1.out.below hb
      clear q0 q1 q2 q3 q4
      obtain ⟨q0, q1, q2, q3, q4⟩ := test_cells hT1
      rw [h5]
      clear h5 hb HB1
      have HB1 := HB2
      clear HB2 H3 HT1
      obtain ⟨l, hl⟩ := anyE_zero HE.out
      obtain ⟨c1, c2, c3', c4, c5, c6, c7⟩ := checkF_zero hl
      have r1 := allow_range c1
      obtain ⟨kf, rfl⟩ := Int.eq_ofNat_of_zero_le (show 0 ≤ fd by omega)
      obtain ⟨ko, rfl⟩ := Int.eq_ofNat_of_zero_le (show 0 ≤ op by omega)
      have HS := Lib.hid (testS_nat HE.out)
      have NF := Lib.hid (fun W => rnameF kf W)
      rw [nameF_nat (by omega) (by omega)] at NF
      have z1 := field_len kf
      have z2 := op_len ko
      have HOC := Lib.hid (cellsO_at (k := ko) (by omega))
      have lo : (ko : Int) < 9 := by omega
      have hcat : ¬ 9223372036854775807 < (fieldN kf).size + (opN ko).size := by omega
      have HC2 := Lib.hid c2
      have HC6 := Lib.hid c6
      clear hl c1 c2 c3' c4 c5 c6 c7 r1
      go_wp2_with fail
      go_region_law (first
        | (go_simp; go_at_call 22; refine (NF.out _).mono ?_; rintro e w5 ⟨rfl, hb5⟩; have hT5 := Blk.below (by first | exact hT5 | exact test_drew hT1) hb5; have HB5 := Lib.hid (below_then (by first | exact HB5.out | exact HB1.out.drew) hb5); obtain ⟨q0, q1, q2, q3, q4⟩ := test_cells hT5; (try (have hgo := Glob.below hgo hb5 (Nat.le_refl _); have hco := (hgo.cell ko).trans HOC.out)); go_simp)
        | (go_simp; go_at_call 45; refine (rops _).mono ?_; rintro e w5 ⟨rfl, hgo, hb5⟩; have hT5 := Blk.below (by first | exact hT5 | exact test_drew hT1) hb5; have HB5 := Lib.hid (below_then (by first | exact HB5.out | exact HB1.out.drew) hb5); obtain ⟨q0, q1, q2, q3, q4⟩ := test_cells hT5; have hco := (hgo.cell ko).trans HOC.out; go_simp))
      all_goals
        clear hco hgo
        by_cases hot : ot = 0
        · subst hot
          cases htx : textB (kf : Int)
          · have HV := Lib.hid (show valS kf nu tx 0 = numS nu by unfold valS; rw [if_neg (by simp), if_neg (by rw [htx]; decide)])
            have CT := Lib.hid (fun W => rtextF kf W)
            rw [htx] at CT
            have HI := Lib.hid (fun W => rnumber nu hi.1 hi.2 W)
            have z3 := numS_lenF nu hi.1 hi.2
            clear htx
            go_wp2_with fail
            refine (CT.out _).mono ?_
            rintro e w7 ⟨rfl, rfl⟩
            go_wp2_with fail
            refine (HI.out _).mono ?_
            rintro e w8 ⟨rfl, rfl⟩
            have z4 : (fieldN kf ++ opN ko).size ≤ 10 := by rw [ByteArray.size_append]; omega
            go_wp2_with fail
            go_ret2
            exact ⟨tup (by rw [HS.out, HV.out]) HE.out.symm, HB5.out⟩
          · have HV := Lib.hid (show valS kf nu tx 0 = quoteS tx by unfold valS; rw [if_neg (by simp), if_pos htx])
            have CT := Lib.hid (fun W => rtextF kf W)
            rw [htx] at CT
            have HQ := Lib.hid (fun W => rquote tx W hx)
            have hs6 : tx.size ≤ 640 := by rcases HC6.out with h | h; rw [htx] at h; cases h; exact h.2.2
            have z3 := quoteS_leF tx hs6
            clear htx
            go_wp2_with fail
            refine (CT.out _).mono ?_
            rintro e w7 ⟨rfl, rfl⟩
            go_wp2_with fail
            refine (HQ.out _).mono ?_
            rintro e w8 ⟨rfl, hb8⟩
            have HB8 := Lib.hid (below_then HB5.out hb8)
            have z4 : (fieldN kf ++ opN ko).size ≤ 10 := by rw [ByteArray.size_append]; omega
            go_wp2_with fail
            go_ret2
            exact ⟨tup (by rw [HS.out, HV.out]) HE.out.symm, HB8.out⟩
        · have r2 := allow_range (HC2.out.resolve_left hot).1
          have HV := Lib.hid (show valS kf nu tx ot = nameF ot by unfold valS; rw [if_pos hot]; unfold nameF; rw [if_neg (by omega)])
          have NO := Lib.hid (fun W => rnameF ot W)
          have z3 : (nameF ot).size ≤ 8 := by unfold nameF; rw [if_neg (by omega)]; exact field_len _
          have b0 : (ot != 0) = true := by simpa using hot
          clear hot
          go_wp2_with fail
          refine (NO.out _).mono ?_
          rintro e w8 ⟨rfl, hb8⟩
          have HB8 := Lib.hid (below_then HB5.out hb8)
          have z4 : (fieldN kf ++ opN ko).size ≤ 10 := by rw [ByteArray.size_append]; omega
          go_wp2_with fail
          go_ret2
          exact ⟨tup (by rw [HS.out, HV.out]) HE.out.symm, HB8.out⟩
    · have HE := Lib.hid (show anyE fd op nu tx ot = checkF fd op nu tx ot 3 by unfold anyE; rw [if_neg (fun h => h5 h.2)])
      have HE2 := Lib.hid (show testS fd op nu tx ot = ⟨#[]⟩ by unfold testS; rw [HE.out, if_neg H3.out])
      have b5 : (checkF fd op nu tx ot 5 != 0) = true := by simpa using h5
      clear h5
      go_wp2_with fail
      go_ret2
      exact ⟨tup HE2.out.symm HE.out.symm, HB2.out⟩
end Go.Proofs.YtnpaoepkpdileaaDoor
/- light and agrees of the laws on fields. -/
namespace Go.Proofs.YtnpaoepkpdileaaDoor
open Go.RowKit
/-- What the walks read of the variables. -/
structure Globs (w : World) : Prop where
  fn : FNames w
  fo : FOps w
  tb : Tab w
  pw : Pow w
theorem Globs.below {w w' : World} (h : Globs w) (hb : Below w.heap.size w w') : Globs w' := ⟨h.fn.below hb, h.fo.below hb, h.tb.below hb (Nat.le_refl _), h.pw.below hb (Nat.le_refl _)⟩
theorem holdT {W w' : World} {B g : Nat} {fd op nu : Int} {tx : ByteArray} {ot : Int} (hT : TestB W g fd op nu tx ot) (hg : g < B) (hb : Below B W w') : Below B W w' ∧ (loadVar 23 ⟨g, 0, none⟩).run Tryd.prog w' = .ok (.agg (testC fd op nu tx ot)) w' := ⟨hb, ld_test (hT.keep hb hg)⟩
theorem holdTC {W w' : World} {B g g2 : Nat} {fd op nu : Int} {tx : ByteArray} {ot : Int} {c : Ctx} {r : CRest} {it : Value} (hT : TestB W g fd op nu tx ot) (hC : CtxB W g2 c r it) (hg : g < B) (hg2 : g2 < B) (hb : Below B W w') : Below B W w' ∧ (loadVar 23 ⟨g, 0, none⟩).run Tryd.prog w' = .ok (.agg (testC fd op nu tx ot)) w' ∧ (loadVar 35 ⟨g2, 0, none⟩).run Tryd.prog w' = .ok (.agg (ctxC c r it)) w' := ⟨hb, ld_test (hT.keep hb hg), ld_ctx (hC.keep hb hg2)⟩
theorem two_then {W wr w1 : World} {B : Nat} (h : Below B W wr) (hB : B ≤ W.heap.size) (k : Below wr.heap.size wr w1) : Below B W w1 := h.trans (k.mono (by have := h.size; omega))
def lightX (c : Ctx) (n : Nat) : Bool := decide (n ≤ 8) && (decide (c.exe.size ≤ 700) && decide (c.comm.size ≤ 700))
attribute [local irreducible] ctxC
set_option maxHeartbeats 1000000 in
theorem light12 (c : Ctx) (r : CRest) (A : Option Addr) (n cp : Nat) (hn : n ≤ maxLen) (h1 : c.exe.size ≤ maxLen) (h2 : c.comm.size ≤ maxLen) (w : World) : Calls Tryd.prog 10 #[ctxV c r (.slice A n cp)] w fun e w' => e = .returned (.bool (lightX c n)) ∧ Below w.heap.size w w' := by
  unfold maxLen at hn h1 h2
  have HC : CtxB (w.alloc (.cells (ctxC c r (.slice A n cp)) 35)) w.heap.size c r (.slice A n cp) := Blk.new w _ _
  have HB := Lib.hid ((Below.refl w.heap.size w).alloc (Nat.le_refl _) (.cells (ctxC c r (.slice A n cp)) 35))
  have qi := HC.items
  have qe := HC.exe
  have qc := HC.comm
  clear HC
  by_cases c1 : n ≤ 8
  · by_cases c2 : c.exe.size ≤ 700
    · by_cases c3 : c.comm.size ≤ 700
      · have HE := Lib.hid (show lightX c n = true by unfold lightX; simp [c1, c2, c3])
        go_enter Tryd.func10, Tryd.ntmps10
        go_wp2_with fail
        go_ret
        exact ⟨ret_b (by first | exact HE.out.symm | (rw [HE.out]; simp <;> omega)), HB.out⟩
      · have HE := Lib.hid (show lightX c n = false by unfold lightX; simp [c3])
        go_enter Tryd.func10, Tryd.ntmps10
        go_wp2_with fail
        go_ret
        exact ⟨ret_b (by first | exact HE.out.symm | (rw [HE.out]; simp <;> omega)), HB.out⟩
    · have HE := Lib.hid (show lightX c n = false by unfold lightX; simp [c2])
      go_enter Tryd.func10, Tryd.ntmps10
      go_wp2_with fail
      go_ret
      exact ⟨ret_b (by first | exact HE.out.symm | (rw [HE.out]; simp <;> omega)), HB.out⟩
  · have HE := Lib.hid (show lightX c n = false by unfold lightX; simp [c1])
    go_enter Tryd.func10, Tryd.ntmps10
    go_wp2_with fail
    go_ret
    exact ⟨ret_b (by first | exact HE.out.symm | (rw [HE.out]; simp <;> omega)), HB.out⟩
attribute [local irreducible] checkF anyE testS evalF evalP
attribute [-go_sem] loadVar
attribute [local go_sem] lv3 lv9 lv33
set_option maxRecDepth 100000 in
set_option maxHeartbeats 8000000 in
theorem agrees12 (fd op nu : Int) (tx : ByteArray) (ot l : Int) (c : Ctx) (r : CRest) (A : Option Addr) (n cp : Nat) (L : List (Itm × IRest)) (hn : n = L.length) (hlen : n ≤ 1000000) (hi : I64 nu) (hx : tx.size ≤ maxLen) (w : World) (hL : ItemsAt w w.heap.size A L) (hg : Globs w) :
    Calls Tryd.prog 12 #[testV fd op nu tx ot, .int .i64 l, ctxV c r (.slice A n cp)] w fun e w' => e = .returned (.bool true) ∧ Below w.heap.size w w' := by
  obtain ⟨hT, hC, hB, hS⟩ := boxTC w fd op nu tx ot c r (.slice A n cp)
  have VF := Lib.hid (fun (W : World) (h : Below w.heap.size w W) => vformatF fd op nu tx ot hi hx W (hg.below h).fn (hg.below h).fo (hg.below h).tb (hg.below h).pw)
  have RF := Lib.hid (fun (W : World) => rformatF fd op nu tx ot hi hx W)
  have VC := Lib.hid (fun l (W : World) => vcheckF fd op nu tx ot l hx W)
  have RC := Lib.hid (fun l (W : World) => rcheckF fd op nu tx ot l hx W)
  have VE := Lib.hid (fun (W : World) (h : Below w.heap.size w W) => vevalF c r A n cp L hn hlen fd op nu tx ot hx W ((hL.keep h (Nat.le_refl _)).more h.size))
  have RE := Lib.hid (fun (W : World) (h : Below w.heap.size w W) => revalF c r A n cp L hn hlen fd op nu tx ot hx W ((hL.keep h (Nat.le_refl _)).more h.size))
  simp only [eval_same] at VE
  have HT := Lib.hid hT
  have HC := Lib.hid hC
  have HB := Lib.hid hB
  have HS := Lib.hid hS
  have hlT0 := ld_test hT
  clear hg hi hL hT hC hB hS hn hlen
  generalize evalF c (L.map (·.1)) fd op nu tx ot = ev at *
  go_enter Tryd.func12, Tryd.ntmps12
  go_wp2_with fail
  generalize (w.alloc (.cells (testC fd op nu tx ot) 23)).alloc (.cells (ctxC c r (.slice A n cp)) 35) = W at *
  have UN := Lib.hid (fun (x : World) (h : Below (w.heap.size + 1 + 1) W x) => HB.out.trans (h.mono (by omega)))
  have HSL := Lib.hid (show w.heap.size + 1 + 1 ≤ W.heap.size by have := HS.out; omega)
  have HLD := Lib.hid (fun (x : World) (h : Below (w.heap.size + 1 + 1) W x) => holdT HT.out (by omega) h)
  have HLC := Lib.hid (fun (x : World) (h : Below (w.heap.size + 1 + 1) W x) => holdTC HT.out HC.out (by omega) (by omega) h)
  refine (VF.out _ HB.out).mono ?_
  rintro e w1 ⟨rfl, hb1⟩
  have b1 := two_then (Below.refl _ _) HSL.out hb1
  obtain ⟨_, lT1⟩ := HLD.out _ b1
  clear hb1 VF hlT0
  go_wp2_with fail
  refine (RF.out _).mono ?_
  rintro e w2 ⟨rfl, hb2⟩
  have B2 := Lib.hid (two_then b1 HSL.out hb2)
  clear hb2 RF lT1 b1
  generalize testS fd op nu tx ot = ts at *
  generalize anyE fd op nu tx ot = te at *
  go_wp2_with fail
  go_region_held3 (fun w' => Below (w.heap.size + 1 + 1) W w' ∧ (loadVar 23 ⟨w.heap.size, 0, none⟩).run Tryd.prog w' = .ok (.agg (testC fd op nu tx ot)) w')
    (first | exact HLD.out _ B2.out.drew | exact HLD.out _ (two_then (And.left (by assumption)) HSL.out hb))
    (first | (go_at_call 31; refine (VC.out _ _).mono ?_; rintro e w3 ⟨rfl, hb⟩) | (go_at_call 32; refine (RC.out _ _).mono ?_; rintro e w3 ⟨rfl, hb⟩))
  all_goals
    rename_i w4 hS4
    have B4 := Lib.hid hS4.1
    clear hS4 B2
    go_wp2_with fail
    go_loopw [11] (fun i wr => ∃ k : Nat, k ≤ 7 ∧ i = .int .i64 (k : Int) ∧ Below (w.heap.size + 1 + 1) W wr) (fun i _ => 7 - (intOf i).toNat)
    case atStart => exact ⟨0, by omega, rfl, B4.out⟩
    case round =>
      obtain ⟨k, hk, rfl, hbr⟩ := hrel
      have BR := Lib.hid hbr
      clear hbr
      by_cases hlt : k < 7
      · go_wp2_with fail
        go_region_held3 (fun w' => Below (w.heap.size + 1 + 1) W w' ∧ (loadVar 23 ⟨w.heap.size, 0, none⟩).run Tryd.prog w' = .ok (.agg (testC fd op nu tx ot)) w')
          (first | exact HLD.out _ BR.out.drew | exact HLD.out _ (two_then (And.left (by assumption)) HSL.out hb))
          (first | (go_at_call 31; refine (VC.out _ _).mono ?_; rintro e w3 ⟨rfl, hb⟩) | (go_at_call 32; refine (RC.out _ _).mono ?_; rintro e w3 ⟨rfl, hb⟩))
        all_goals
          go_wp2_with fail
          go_roundw
          case rel => exact ⟨k + 1, by omega, by go_num, And.left (by assumption)⟩
          case measure => simp [intOf]; omega
      · go_wp2_with fail
        go_region_held3 (fun w' => Below (w.heap.size + 1 + 1) W w' ∧ (loadVar 23 ⟨w.heap.size, 0, none⟩).run Tryd.prog w' = .ok (.agg (testC fd op nu tx ot)) w' ∧ (loadVar 35 ⟨w.heap.size + 1, 0, none⟩).run Tryd.prog w' = .ok (.agg (ctxC c r (.slice A n cp))) w')
          (first | exact HLC.out _ BR.out.drew | exact HLC.out _ (two_then (And.left (by assumption)) HSL.out hb))
          (first | (go_at_call 18; refine (VE.out _ (UN.out _ (And.left (by assumption)))).mono ?_; rintro e w3 ⟨rfl, hb⟩) | (go_at_call 33; refine (RE.out _ (UN.out _ (And.left (by assumption)))).mono ?_; rintro e w3 ⟨rfl, hb⟩))
        all_goals
          go_wp2_with fail
          go_ret
          exact ⟨ret_b (by simp), UN.out _ (And.left (by assumption))⟩
end Go.Proofs.YtnpaoepkpdileaaDoor
/- The walk of the law FieldBuilt. -/
namespace Go.Proofs.YtnpaoepkpdileaaDoor
open Go.RowKit
theorem ItemsAt.grown {w w' : World} {B g : Nat} {A : Option Addr} {L : List (Itm × IRest)} (h : ItemsAt w B A L) (hg : w.grownBy w' (some g)) (hB : B ≤ w.heap.size) (hne : ∀ ad, A = some ad → ad.block ≠ g) : ItemsAt w' B A L := fun k hk => by
  obtain ⟨ad, e, hl, hc⟩ := h k hk
  exact ⟨ad, e, hl, fun j hj => (hg.cell_far _ (by rw [add_block, add_block]; omega) (by rw [add_block, add_block]; intro e2; injection e2 with e2; exact hne ad e e2)).trans (hc j hj)⟩
/-- What a law keeps beside a context that it made: the source, the context, its items. -/
structure BSt (w wr : World) (gc : Nat) (b : Int) (c : Ctx) (r : CRest) (A : Option Addr) (cp : Nat) (L : List (Itm × IRest)) : Prop where
  low : Below w.heap.size w wr
  src : SrcOk wr w.heap.size w.heap.size b
  cb : CtxB wr gc c r (.slice A L.length cp)
  it : ItemsAt wr gc A L
  nb : ∀ ad, A = some ad → ad.block ≠ w.heap.size
  hg : w.heap.size < gc
section
variable {w wr w' : World} {gc : Nat} {b b' : Int} {c : Ctx} {r : CRest} {A : Option Addr} {cp : Nat} {L : List (Itm × IRest)}
theorem BSt.step (h : BSt w wr gc b c r A cp L) (hs : SrcOk w' w.heap.size w.heap.size b') (hg : wr.grownBy w' (some w.heap.size)) : BSt w w' gc b' c r A cp L :=
  ⟨below_only h.low hg h.low.size (Nat.le_refl _), hs, Blk.grown h.cb hg (fun e => by injection e with e; have := h.hg; omega), h.it.grown hg (Nat.le_of_lt (Blk.lt h.cb)) h.nb, h.nb, h.hg⟩
theorem BSt.below (h : BSt w wr gc b c r A cp L) (hb : Below wr.heap.size wr w') : BSt w w' gc b c r A cp L :=
  ⟨below_then h.low hb, h.src.below hb, Blk.below h.cb hb, h.it.keep hb (Nat.le_of_lt (Blk.lt h.cb)), h.nb, h.hg⟩
theorem BSt.drew (h : BSt w wr gc b c r A cp L) : BSt w wr.drew gc b c r A cp L := ⟨⟨h.low.os, h.low.tape, h.low.output, h.low.size, h.low.block⟩, h.src, h.cb, h.it, h.nb, h.hg⟩
theorem BSt.more (h : BSt w wr gc b c r A cp L) (hb : b ≤ b') : BSt w wr gc b' c r A cp L := ⟨h.low, h.src.more hb, h.cb, h.it, h.nb, h.hg⟩
theorem BSt.items (h : BSt w wr gc b c r A cp L) : ItemsAt wr wr.heap.size A L := h.it.more (Nat.le_of_lt (Blk.lt h.cb))
end
/-- A context that Context made, laid in a block of the law's own. -/
theorem bst_new {w w1 w2 : World} {b : Int} {c : Ctx} {r : CRest} {v : Value} {L : List (Itm × IRest)} (hb1 : Below w.heap.size w w1) (h1 : w.heap.size < w1.heap.size) (hs : SrcOk w2 w.heap.size w.heap.size b) (hg : w1.grownBy w2 (some w.heap.size)) (hown : OwnI w2 w1.heap.size v L) :
    ∃ A cp, v = .slice A L.length cp ∧ BSt w ((w2.alloc (.cells zeroX 35)).setRow w2.heap.size (ctxC c r v)) w2.heap.size b c r A cp L := by
  obtain ⟨A, cp, rfl, hit⟩ := hown.items
  have hsz := hg.size
  have hb2 := below_only hb1 hg hb1.size (Nat.le_refl _)
  have hbR : Below w2.heap.size w2 ((w2.alloc (.cells zeroX 35)).setRow w2.heap.size (ctxC c r (.slice A L.length cp))) := below_row ((Below.refl _ _).alloc (Nat.le_refl _) _) (Nat.le_refl _) _
  refine ⟨A, cp, rfl, below_then hb2 hbR, hs.below hbR, (Blk.new w2 zeroX 35).row _, hit.keep hbR (Nat.le_refl _), fun ad e => ?_, by omega⟩
  subst e
  have := hown.ge ad.block (by rfl)
  omega
theorem step_load_ctx {ops : Array Oper} {o : Oper} {a : Act} {w : World} {K : Act → World → Prop} {Q : Exit → Act → World → Prop} {E : Prop} (hgd : o.guard = none) (x : Operand) (ho : o.op = .load 35 x) {g : Nat} {c : Ctx} {r : CRest} {it : Value} (hg : CtxB w g c r it) (hx : a.eval x = .pointer (some ⟨g, 0, none⟩)) (h : K (a.put o.dst (.agg (ctxC c r it))) w) :
    if Region.wanted o (yielded ops a.tmps) = true then Oper.wp Tryd.prog o a w K Q else E := by
  have hw : Region.wanted o (yielded ops a.tmps) = true := by simp [Region.wanted, hgd]
  rw [if_pos hw]
  exact wp_load_row 35 x ho g hx _ _ (0, 0) _ hg Tryd.underlying35 rfl (ctx_sz _ _ _) h
attribute [local irreducible] ctxC
attribute [-go_sem] loadVar
attribute [local go_sem] lv3 lv9 lv33
set_option maxRecDepth 100000 in
set_option maxHeartbeats 4000000 in
theorem fieldBuilt_walk (w : World) (A : Option Addr) (n c : Nat) (hn : (n : Int) ≤ 9223372036854775807)
    (hl : ∀ k, k < n → ∃ (ad : Addr) (z : Int), A = some ad ∧ ad.block < w.heap.size ∧ w.cell? (ad.add k) = some (.int .i64 z) ∧ -9223372036854775808 ≤ z ∧ z ≤ 9223372036854775807) (hG : Globs w) :
    Calls Tryd.prog 4 #[.slice A n c] w fun e w' => e = .returned (.bool true) ∧ Below w.heap.size w w' := by
  have HL := Lib.hid hl
  have HN := Lib.hid hn
  have HGL := Lib.hid (fun (W : World) (h : Below w.heap.size w W) => hG.below h)
  have HAW := Lib.hid (fun (W : World) (h : Below w.heap.size w W) => awake12 W (hG.below h).fn (hG.below h).fo (hG.below h).tb (hG.below h).pw)
  clear hl hn hG
  go_enter Tryd.func4, Tryd.ntmps4
  go_wp2_with fail
  refine (src_new _ A n c HN.out HL.out).mono ?_
  rintro e w1 ⟨rfl, hs1, hb1⟩
  have hlt1 := src_lt hs1
  have HS1 := Lib.hid hs1
  have HB1 := Lib.hid hb1
  clear hs1 hb1
  go_wp2_with fail
  refine (src_context _ w.heap.size w.heap.size 0 HS1.out (by omega)).mono ?_
  rintro e w2 ⟨cx, r, it, L, rfl, hL2, hown, hs2, hg2⟩
  obtain ⟨Ai, cp, rfl, hst⟩ := bst_new (c := cx) (r := r) HB1.out hlt1 hs2 hg2 hown
  have HX := Blk.new w2 zeroX 35
  have HST := Lib.hid hst
  clear hown hs2 hg2 hst hlt1 HB1 HS1
  go_wp2_with ((with_reducible refine store_blk ?_ 35 (.tmp 4) (.tmp 10) ?_ HX (ctxC cx r (.slice Ai L.length cp)) ?_ ?_ ?_ ?_ ?_ ?_); (iterate 4 rfl); (exact ctx_sz _ _ _); (exact ctx_old _ _ _); (exact ctx_one _ _ _ _ _))
  clear HX
  generalize (w2.alloc (.cells zeroX 35)).setRow w2.heap.size (ctxC cx r (.slice Ai L.length cp)) = w4 at *
  generalize w2.heap.size = gc at *
  go_loopw [5] (fun i wr => ∃ k : Int, i = .int .i64 k ∧ 0 ≤ k ∧ k ≤ 6 ∧ BSt w wr gc (500 + 30 * k) cx r Ai cp L) (fun i _ => (6 - intOf i).toNat)
  case atStart => exact ⟨0, rfl, by omega, by omega, HST.out.more (by omega)⟩
  case round =>
    obtain ⟨k, rfl, hk0, hk6, hst⟩ := hrel
    clear HST
    by_cases hk : k < 6
    · go_wp2_with fail
      refine (src_range _ w.heap.size w.heap.size _ 1 5 hst.src (by omega) (by omega) (by omega) (by omega)).mono ?_
      rintro e w5 ⟨l, rfl, hl1, hl5, hs5, hg5⟩
      have st5 := hst.step hs5 hg5
      clear hst hs5 hg5
      go_wp2_with fail
      go_region_held3 (fun w' => BSt w w' gc (500 + 30 * (k + 1)) cx r Ai cp L ∧ (loadVar 35 ⟨gc, 0, none⟩).run Tryd.prog w' = .ok (.agg (ctxC cx r (.slice Ai L.length cp))) w')
        (first | exact ⟨st7, ld_ctx st7.cb⟩ | exact ⟨st6, ld_ctx st6.cb⟩ | exact ⟨st5.drew.more (by omega), ld_ctx st5.drew.cb⟩)
        (first | (go_at_call 16; refine (src_test _ w.heap.size w.heap.size _ l st5.drew.src (by omega)).mono ?_; rintro e w6 ⟨fd, op, nu, tx, ot, rfl, hnu, htx, hs6, hg6⟩; have st6 := (st5.drew.step hs6 hg6).more (show 500 + 30 * k + 1 + 20 ≤ 500 + 30 * (k + 1) by omega)) | (go_at_call 12; refine (agrees12 fd op nu tx ot l cx r Ai L.length cp L rfl (by omega) ⟨by omega, by omega⟩ (by unfold maxLen; omega) w6 st6.items (HGL.out _ st6.low)).mono ?_; rintro e w7 ⟨rfl, hb7⟩; have st7 := st6.below hb7))
      all_goals
        have HB7 := Lib.hid st7
        go_wp2_with fail
        go_roundw
        case rel => exact ⟨k + 1, by go_num, by omega, by omega, HB7.out.more (by omega)⟩
        case measure => simp [intOf]; omega
    · have hk7 : k = 6 := by omega
      subst hk7
      go_wp2_with fail
      refine (HAW.out _ hst.low).mono ?_
      rintro e w8 ⟨rfl, hb8⟩
      go_wp2_with fail
      go_ret
      exact ⟨rfl, below_then hst.low hb8⟩
end Go.Proofs.YtnpaoepkpdileaaDoor
/- Listed variables: arrays of strings, arrays of rows. -/
namespace Go.Proofs.YtnpaoepkpdileaaDoor
open Go.ChangeShapes Go.WideShapes Go.RowKit Go.Joins Go.Deep
theorem chunks {α : Type} {c : Nat} : ∀ {L : List (List α)} {cs : List α}, cs.length = L.length * c → (∀ i (hi : i < L.length), (cs.drop (i * c)).take c = L[i]) → cs = L.flatten
  | [], cs, h, _ => by simp at h; simp [h]
  | x :: L, cs, h, hi => by
    have h0 := hi 0 (by simp)
    simp at h0
    have hr : cs.drop c = L.flatten := chunks (c := c) (by rw [List.length_drop, h, List.length_cons, Nat.add_mul]; omega) (fun i hlt => by
      have := hi (i + 1) (by simp; omega)
      rw [List.drop_drop, show c + i * c = (i + 1) * c by rw [Nat.add_mul]; omega]
      simpa using this)
    rw [List.flatten_cons, ← hr, ← h0, List.take_append_drop]
section
variable {H : Type} {enc : TypeId × Value → H} {P : Program} {w : World} {base : Nat} {sp : Nat → Bool} {held : Bool}
theorem one_at {cs : List Value} {j : Nat} {v : Value} (h : (cs.drop j).take 1 = [v]) : cs[j]? = some v := by
  have := congrArg (·[0]?) h
  simpa [List.getElem?_take, List.getElem?_drop] using this
/-- A struct of a string and four integers, out of its datum. -/
theorem row5_cells {fuel : Nat} {t : TypeId} {f0 f1 f2 f3 f4 : Field} {k : IntKind} {cs : List Value} {l : List UInt8} {a b c d : Int} {p : List MemPlace} (hs : P.underlying t = some (.struct #[f0, f1, f2, f3, f4])) (hone : oneCellFields P #[f0, f1, f2, f3, f4] = true) (hC : P.cellsOf t = 5)
    (h0 : P.underlying f0.type = some .string) (h1 : P.underlying f1.type = some (.int k)) (h2 : P.underlying f2.type = some (.int k)) (h3 : P.underlying f3.type = some (.int k)) (h4 : P.underlying f4.type = some (.int k))
    (h : DataW.trod enc P w base sp held fuel t cs = some (.agg [.lit (.string l), .lit (.int k a), .lit (.int k b), .lit (.int k c), .lit (.int k d)], p)) : cs = [.string ⟨l.toArray⟩, .int k a, .int k b, .int k c, .int k d] := by
  obtain ⟨xs, n, _, hx, hl, hlen, hg⟩ := DataW.trod_struct hs h
  obtain ⟨o0, k0⟩ := hone_of hone 0 f0 rfl
  obtain ⟨o1, k1⟩ := hone_of hone 1 f1 rfl
  obtain ⟨o2, k2⟩ := hone_of hone 2 f2 rfl
  obtain ⟨o3, k3⟩ := hone_of hone 3 f3 rfl
  obtain ⟨o4, k4⟩ := hone_of hone 4 f4 rfl
  match xs, hlen with
  | [y0, y1, y2, y3, y4], _ =>
    simp only [Prod.mk.injEq] at hx
    have hx1 := hx.1
    simp at hx1
    obtain ⟨e0, e1, e2, e3, e4⟩ := hx1
    have g0 := hg 0 f0 rfl
    have g1 := hg 1 f1 rfl
    have g2 := hg 2 f2 rfl
    have g3 := hg 3 f3 rfl
    have g4 := hg 4 f4 rfl
    rw [o0, k0] at g0
    rw [o1, k1] at g1
    rw [o2, k2] at g2
    rw [o3, k3] at g3
    rw [o4, k4] at g4
    simp only [List.getElem?_cons_zero, List.getElem?_cons_succ] at g0 g1 g2 g3 g4
    obtain ⟨s, c0, z0, _⟩ := DataW.trod_string h0 g0
    obtain ⟨n1, c1, z1, _⟩ := DataW.trod_int h1 g1
    obtain ⟨n2, c2, z2, _⟩ := DataW.trod_int h2 g2
    obtain ⟨n3, c3, z3, _⟩ := DataW.trod_int h3 g3
    obtain ⟨n4, c4, z4, _⟩ := DataW.trod_int h4 g4
    rw [z0] at e0; rw [z1] at e1; rw [z2] at e2; rw [z3] at e3; rw [z4] at e4
    simp at e0 e1 e2 e3 e4
    have q0 := one_at c0
    have q1 := one_at c1
    have q2 := one_at c2
    have q3 := one_at c3
    have q4 := one_at c4
    subst e1 e2 e3 e4
    have es : s = ⟨l.toArray⟩ := by rw [e0]
    subst es
    match cs, hl.trans hC with
    | [x0, x1, x2, x3, x4], _ =>
      simp at q0 q1 q2 q3 q4
      rw [q0, q1, q2, q3, q4]
/-- An array whose elements are known, element by element. -/
theorem arr_cells {fuel n c : Nat} {t e : TypeId} {cs : List Value} {ds : List (DataW H)} {p : List MemPlace} {L : List (List Value)} (ht : P.underlying t = some (.array n e)) (hce : P.cellsOf e = c) (hct : P.cellsOf t = n * c) (hL : L.length = n)
    (h : DataW.trod enc P w base sp held fuel t cs = some (.agg ds, p))
    (hel : ∀ i (hi : i < L.length) m cs' d q, ds[i]? = some d → DataW.trod enc P w base sp held m e cs' = some (d, q) → cs' = L[i]) : cs = L.flatten := by
  obtain ⟨xs, m, _, hx, hl, hlen, hg⟩ := DataW.trod_array ht h
  simp only [Prod.mk.injEq] at hx
  have hx1 := hx.1
  simp at hx1
  refine chunks (c := c) (by rw [hl, hct, hL]) fun i hi => ?_
  have := hg i (by omega)
  rw [hce] at this
  have hxi : xs[i]? = some (xs[i]'(by omega)) := List.getElem?_eq_getElem (by omega)
  rw [hxi] at this
  exact hel i hi m _ _ _ (by rw [hx1, List.getElem?_map, hxi]; rfl) this
/-- A field of a struct that is read: its type, its offset and its number of cells. -/
theorem field_of {n : Nat} {fs : Array Field} {cs : List Value} {xs : List (DataW H × List MemPlace)} (hg : ∀ (i : Nat) (f : Field), fs[i]? = some f → DataW.trod enc P w base sp held n f.type ((cs.drop f.offset).take (P.cellsOf f.type)) = xs[i]?) (i : Nat) (ty : TypeId) (off k : Nat)
    (h : (fs[i]?).map (fun f => (f.type, f.offset)) = some (ty, off)) (hk : P.cellsOf ty = k) : DataW.trod enc P w base sp held n ty ((cs.drop off).take k) = xs[i]? := by
  cases hf : fs[i]? with
  | none => rw [hf] at h; cases h
  | some f =>
    rw [hf] at h
    simp at h
    have := hg i f hf
    rw [h.1, h.2, hk] at this
    exact this
/-- A listed array, out of the row's condition. -/
theorem glob_of_laid {P : Program} {W : World} {laid : List (String × DataW Unit)} {name : String} {ds : List (DataW Unit)} {g n c : Nat} {t e : TypeId} {L : List (List Value)} {cs : Array Value} (i : Nat)
    (hpl : (laid.all fun x => x.2.handleName?.isNone) = true) (h : laidMetH P laid W) (hi : laid[i]? = some (name, .agg ds))
    (hg : P.globalNamed name = some g) (hty : (P.globals[g]?).map (·.type) = some t) (ht : P.underlying t = some (.array n e)) (hce : P.cellsOf e = c) (hct : P.cellsOf t = n * c) (hL : L.length = n) (hcs : cs = L.flatten.toArray)
    (hel : ∀ (w : World) i (hi : i < L.length) m cs' d q, ds[i]? = some d → DataW.trod (fun _ => ()) P w 0 (fun _ => true) false m e cs' = some (d, q) → cs' = L[i]) : Glob W g cs := by
  rw [MakeChecks.laidMetH_plain _ _ _ hpl] at h
  obtain ⟨ps, hv, _⟩ := h
  obtain ⟨g', t', cs', fuel, p, hg', ht', hvar, hd⟩ := vars_at hv i name _ hi
  obtain rfl := Option.some.inj (hg.symm.trans hg')
  obtain rfl := Option.some.inj (hty.symm.trans ht')
  have hc := arr_cells ht hce hct hL hd (hel W)
  unfold World.var? at hvar
  rw [hg] at hvar
  simp only [Option.bind_some] at hvar
  split at hvar
  · rename_i cs2 tt fr he
    injection hvar with hvar
    subst hvar
    refine ⟨tt, fr, by rw [he, hcs, ← hc]⟩
  · cases hvar
end
end Go.Proofs.YtnpaoepkpdileaaDoor
/- The listed tables of fields and operators. -/
namespace Go.Proofs.YtnpaoepkpdileaaDoor
open Go.ChangeShapes Go.WideShapes Go.RowKit Go.Joins Go.Deep
theorem flat_one : ∀ M : List ByteArray, (M.map fun s => [Value.string s]).flatten = M.map Value.string
  | [] => rfl
  | x :: M => by simp [flat_one M]
theorem strs_laid {P : Program} {W : World} {laid : List (String × DataW Unit)} {name : String} {g n : Nat} {t e : TypeId} {M : List ByteArray} (i : Nat)
    (hpl : (laid.all fun x => x.2.handleName?.isNone) = true) (h : laidMetH P laid W) (hi : laid[i]? = some (name, .agg (M.map fun s => .lit (.string s.data.toList))))
    (hg : P.globalNamed name = some g) (hty : (P.globals[g]?).map (·.type) = some t) (ht : P.underlying t = some (.array n e)) (hce : P.cellsOf e = 1) (hct : P.cellsOf t = n * 1) (he : P.underlying e = some .string) (hL : M.length = n) : Glob W g (M.map Value.string).toArray :=
  glob_of_laid (c := 1) (n := n) (L := M.map fun s => [Value.string s]) i hpl h hi hg hty ht hce hct (by simpa using hL) (by
    rw [flat_one]) (fun w j hj m cs' d q hd htr => by
    have hjM : j < M.length := by simpa using hj
    rw [List.getElem?_map, List.getElem?_eq_getElem hjM] at hd
    simp at hd
    obtain ⟨s, c0, z0, _⟩ := DataW.trod_string he htr
    rw [← hd] at z0
    simp at z0
    subst c0
    have : s = M[j] := by
      apply ByteArray.ext
      exact z0.1.symm
    rw [this]; simp)
theorem names_laid {W : World} {laid : List (String × DataW Unit)} (i : Nat) (hpl : (laid.all fun x => x.2.handleName?.isNone) = true) (h : laidMetH Tryd.prog laid W) (hi : laid[i]? = some ("kaudit/field.names", Rows.laid_kaudit_field_names)) : FNames W :=
  strs_laid (M := fieldL) (t := 74) (e := 9) (n := 23) i hpl h hi (by kernel_rfl) (by kernel_rfl) Tryd.underlying74 (by kernel_rfl) (by kernel_rfl) Tryd.underlying9 rfl
theorem ops_laid {W : World} {laid : List (String × DataW Unit)} (i : Nat) (hpl : (laid.all fun x => x.2.handleName?.isNone) = true) (h : laidMetH Tryd.prog laid W) (hi : laid[i]? = some ("kaudit/field.operators", Rows.laid_kaudit_field_operators)) : FOps W :=
  strs_laid (M := opL) (t := 78) (e := 9) (n := 9) i hpl h hi (by kernel_rfl) (by kernel_rfl) Tryd.underlying78 (by kernel_rfl) (by kernel_rfl) Tryd.underlying9 rfl
end Go.Proofs.YtnpaoepkpdileaaDoor
/- What the walks read of the variables; Atoi. -/
namespace Go.Proofs.YtnpaoepkpdileaaDoor
open Go.RowKit
def Mx (w : World) : Prop := ∃ m, w.cell? ⟨3, 0, none⟩ = some (.int .i64 m)
def ErrV (w : World) (g : Nat) : Prop := ∃ ev, w.cell? ⟨g, 0, none⟩ = some ev ∧ (ev = .nilIface ∨ ∃ te pe, ev = .iface te pe)
structure Env (w : World) : Prop where
  tab : Tab w
  pow : Pow w
  mx : Mx w
  es : ErrV w 4
  er : ErrV w 5
theorem Mx.below {w w' : World} (h : Mx w) (hb : Below w.heap.size w w') : Mx w' := by
  obtain ⟨m, hm⟩ := h
  exact ⟨m, (hb.cell (block_lt_of_cell hm)).trans hm⟩
theorem ErrV.below {w w' : World} {g : Nat} (h : ErrV w g) (hb : Below w.heap.size w w') : ErrV w' g := by
  obtain ⟨ev, hm, h⟩ := h
  exact ⟨ev, (hb.cell (block_lt_of_cell hm)).trans hm, h⟩
theorem Env.below {w w' : World} (h : Env w) (hb : Below w.heap.size w w') : Env w' :=
  ⟨h.tab.below hb (Nat.le_refl _), h.pow.below hb (Nat.le_refl _), h.mx.below hb, h.es.below hb, h.er.below hb⟩
theorem vatoi_ok (s : ByteArray) (hs : s.size ≤ 1000000) (v : Int) (h : Lib.atoiAll s.data.toList = .ok v) (w : World) :
    Calls Tryd.prog 72 #[.string s] w fun e w' => e = .returned (.tuple #[.int .i64 v, .nilIface]) ∧ Below w.heap.size w w' :=
  (Tryd.strconv_Atoi_ok s (by omega) v h w).mono fun _ _ hh => ⟨hh.1, by
    rcases hh.2 with rfl | ⟨t, rfl⟩
    · exact Below.refl _ _
    · exact Joins.below_bytesWorld _ _ _ _ (Nat.le_refl _)⟩
def AtoiBad (w : World) (e : Ending) (w' : World) : Prop := ∃ (v : Int) (N : Nat), e = .returned (.tuple #[.int .i64 v, .iface 124 (.pointer (some ⟨N, 0, none⟩))]) ∧ Below w.heap.size w w'
theorem vatoi_bad (s : ByteArray) (hs : s.size ≤ 1000000) (h : ∀ v, Lib.atoiAll s.data.toList ≠ .ok v) (w : World) (he : Env w) :
    Calls Tryd.prog 72 #[.string s] w (AtoiBad w) := by
  cases ha : Lib.atoiAll s.data.toList
  · exact absurd ha (h _)
  · obtain ⟨ev, h1, h2⟩ := he.es
    exact (Any.strconv_Atoi_syntax Tryd.laysC172 s (by omega) ha ev w h1 h2).mono fun _ _ hh => by
      obtain ⟨N, h1, _, _, h4⟩ := hh
      exact ⟨_, N, h1, h4⟩
  · obtain ⟨ev, h1, h2⟩ := he.er
    exact (Tryd.strconv_Atoi_range s (by omega) ha ev w h1 h2).mono fun _ _ hh => by
      obtain ⟨N, h1, _, _, h4⟩ := hh
      exact ⟨_, N, h1, h4⟩
end Go.Proofs.YtnpaoepkpdileaaDoor
/- The wrap of a law's row that keeps the world's shape beside what the listed variables hold. -/
namespace Go.Proofs.YtnpaoepkpdileaaDoor
open Go
variable {H : Type} {enc : TypeId × Value → H}
theorem handed_and_shaped {a : Assume} {C : Checked} {os : Os} {f : FuncId} {fn : Func} {s : ChangeSpec} {conds : List PathCond} {apart fresh handsOn again : Bool} {X : World → Array Value → Prop}
    (hX : ∀ (w w' : World) (args : Array Value), w.heap = w'.heap → X w args → X w' args)
    (own : ownKnob C.prog.godebug = none) (started : os.Started) (noInit : C.prog.inits.idxOf? f = none) (hfn : C.prog.funcs[f]? = some fn)
    (witness : ∃ (w : World) (tape : Tape) (i : Input), w.os = os ∧ (w.forCall tape i).Shaped C.prog ∧ i.vars = [] ∧ Input.okWide C.prog (w.forCall tape i) .any w.heap.size f i ∧
      ((s.pre enc C.prog fn conds apart (w.forCall tape i).memory i.args ∧ X (w.forCall tape i).memory i.args) ∧ sizedMet enc C.prog fn (OpenSpec.ofChange s) apart (w.forCall tape i).memory i.args) ∧ a.holds C.prog (lone (Frame.enter C.prog f i.args .normal) [] (w.forCall tape i)))
    (contract : ∀ (W : World) (base : Nat) (args : Array Value) (ds gs : List (DataW H)) (before : List MemPlace),
      (∀ (j : Nat) t v, fn.params[j]? = some t → args[j]? = some v → Value.okWide C.prog W .any base t v) →
      DataW.Whole enc C.prog fn.params.toList s.vars apart W args.toList ds gs before → X W args → W.ShapedOpen C.prog →
      Calls C.prog f args W fun e W' => ∃ v, e = .returned v ∧ s.post enc C.prog fn apart fresh handsOn again W args v W') :
    ReturnsInHanded a C os f .any (fun w args => (s.pre enc C.prog fn conds apart w args ∧ X w args) ∧ sizedMet enc C.prog fn (OpenSpec.ofChange s) apart w args) (s.post enc C.prog fn apart fresh handsOn again) := by
  refine returnsInHanded_of_calls own started noInit witness ?_
  intro w tape i _ hsh _ hok hpre hholds
  obtain ⟨_, _, _, fn', hfn', _, _, _, _, hval⟩ := hok
  have e : fn' = fn := Option.some.inj (hfn'.symm.trans hfn)
  subst e
  obtain ⟨⟨⟨ds, gs, before, hw, hc⟩, hx⟩, hz⟩ := hpre
  have hw' := DataW.Whole.of_heap (w' := w.forCall tape i) (by rfl) hw
  refine (contract (w.forCall tape i) w.heap.size i.args ds gs before hval hw' (hX _ _ _ (by rfl) hx) hsh).mono fun e W' ⟨v, he, hp⟩ => ?_
  subst he
  exact ChangeSpec.post_blind hp
end Go.Proofs.YtnpaoepkpdileaaDoor
/- The listed error variables; the variable MaxLen, out of the world's shape. -/
namespace Go.Proofs.YtnpaoepkpdileaaDoor
open Go.RowKit
theorem errv_of_laid {W : World} {laid : List (String × DataW Unit)} {name nm : String} {d : DataW Unit} {g : Nat} {ms : Array (String × TypeId)} (i : Nat) (hpl : (laid.all fun x => x.2.handleName?.isNone) = true) (h : laidMetH Tryd.prog laid W) (hi : laid[i]? = some (name, .iface nm d))
    (hg : Tryd.prog.globalNamed name = some g) (hty : (Tryd.prog.globals[g]?).map (·.type) = some 99) (hu : Tryd.prog.underlying 99 = some (.interface ms)) : ErrV W g := by
  rw [MakeChecks.laidMetH_plain _ _ _ hpl] at h
  obtain ⟨ps, hv, _⟩ := h
  obtain ⟨g', t', cs, fuel, p, hg', ht', hvar, hd⟩ := vars_at hv i name _ hi
  obtain rfl := Option.some.inj (hg.symm.trans hg')
  obtain rfl := Option.some.inj (hty.symm.trans ht')
  obtain ⟨_, u, v, hc, _, _⟩ := iface_of_trod hu hd
  unfold World.var? at hvar
  rw [hg] at hvar
  simp only [Option.bind_some] at hvar
  split at hvar
  · rename_i cs2 tt fr he
    injection hvar with hvar
    subst hvar
    refine ⟨.iface u v, ?_, .inr ⟨u, v, rfl⟩⟩
    rw [cell_of_row W _ 0 cs2 tt fr he]
    have : cs2 = #[.iface u v] := by apply Array.toList_inj.1; rw [hc]
    rw [this]; rfl
  · cases hvar
theorem mx_of_shape {W : World} (h : W.ShapedOpen Tryd.prog) : Mx W :=
  cell_of_shapedOpen_int (P := Tryd.prog) (g := 3) (t := 3) (zero := #[.int .i64 0]) h (of_decide_eq_true (by kernel_rfl)) (by kernel_rfl) rfl (by kernel_rfl) (by kernel_rfl) Tryd.underlying3
end Go.Proofs.YtnpaoepkpdileaaDoor
/- The walk of FieldBuilt, with what the row lists. -/

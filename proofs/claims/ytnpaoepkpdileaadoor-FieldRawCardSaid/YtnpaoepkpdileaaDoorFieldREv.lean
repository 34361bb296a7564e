/- Eval of the reference returns evalF. -/
import Derived.Test.YtnpaoepkpdileaaDoorFieldROne
import Derived.Deep.RegionHeld3
namespace Go.Proofs.YtnpaoepkpdileaaDoor
open Go.RowKit
theorem ld_any {P : Program} {w : World} {a : Addr} {ty : TypeId} {cs : Array Value} {d : TypeDesc} (h : ∀ j v, cs.toList[j]? = some v → w.cell? (a.add j) = some v)
    (hu : P.underlying ty = some d) (hd : (match d with | .struct _ | .array _ _ => true | _ => false) = true) (hi : (P.info? ty).map (·.size) = some cs.size) :
    (loadVar ty a).run P w = .ok (.agg cs) w := by
  have hl : (loadCells a cs.toList.length).run P w = .ok cs.toList.toArray w := run_loadCells_list (P := P) w a cs.toList h
  cases hq : P.info? ty with
  | none => simp [hq] at hi
  | some i =>
    have hs : i.size = cs.size := by simpa [hq] using hi
    have hagg : (isAgg ty).run P w = .ok true w := by
      unfold isAgg
      rw [Sem.run_bind, run_underlying hu w]
      cases d <;> simp_all
    simp only [Array.length_toList, Array.toArray_toList] at hl
    simp [loadVar, Sem.run_bind, hagg, sizeOf, typeInfo, hq, hs, hl]
theorem ld_test {w : World} {g : Nat} {fd op nu : Int} {tx : ByteArray} {ot : Int} (h : TestB w g fd op nu tx ot) : (loadVar 23 ⟨g, 0, none⟩).run Tryd.prog w = .ok (.agg (testC fd op nu tx ot)) w := run_loadVar_row w g _ _ _ _ _ h Tryd.underlying23 rfl (test_sz _ _ _ _ _)
theorem ld_item {w : World} {a : Addr} {i : Itm} {r : IRest} (h : ∀ j, j < 13 → w.cell? (a.add j) = (itemC i r)[j]?) : (loadVar 69 a).run Tryd.prog w = .ok (.agg (itemC i r)) w :=
  ld_any (fun j v hv => by
    have hj : j < 13 := by
      rcases Nat.lt_or_ge j 13 with hj | hj
      · exact hj
      · rw [List.getElem?_eq_none (by show 13 ≤ j; exact hj)] at hv; cases hv
    rw [h j hj]; simpa using hv) Tryd.underlying69 rfl (item_sz _ _)
theorem file_sz (x y : Int) : (Tryd.prog.info? 25).map (·.size) = some (#[Value.int .i64 x, .int .i64 y] : Array Value).size := by show _ = some 2; kernel_rfl
theorem ld_file {w : World} {b o : Nat} {x y : Int} (h5 : w.cell? ⟨b, o, none⟩ = some (.int .i64 x)) (h6 : w.cell? ⟨b, o + 1, none⟩ = some (.int .i64 y)) : (loadVar 25 ⟨b, o, none⟩).run Tryd.prog w = .ok (.agg #[.int .i64 x, .int .i64 y]) w :=
  ld_any (fun j v hv => by
    match j with
    | 0 => simp at hv; subst hv; exact h5
    | 1 => simp at hv; subst hv; exact h6
    | j + 2 => simp at hv) Tryd.underlying25 rfl (file_sz _ _)
theorem lv33 (a : Addr) (w : World) : (loadVar 33 a).run Tryd.prog w = (load a).run Tryd.prog w := by
  unfold loadVar
  simp [go_sem]
theorem holdR {wr x : World} {g g2 : Nat} {fd op nu : Int} {tx : ByteArray} {ot : Int} {c : Ctx} {r : CRest} {it : Value} {p : Addr} {i : Itm} {ir : IRest} (hT : TestB wr g fd op nu tx ot) (hC : CtxB wr g2 c r it) (hcl : ∀ j, j < 13 → wr.cell? (p.add j) = (itemC i ir)[j]?) (hp : p.block < wr.heap.size) (hb : Below wr.heap.size wr x) :
    Below wr.heap.size wr x ∧ (loadVar 23 ⟨g, 0, none⟩).run Tryd.prog x = .ok (.agg (testC fd op nu tx ot)) x ∧ (loadVar 35 ⟨g2, 0, none⟩).run Tryd.prog x = .ok (.agg (ctxC c r it)) x ∧ (loadVar 69 p).run Tryd.prog x = .ok (.agg (itemC i ir)) x ∧ (loadVar 25 ⟨p.block, p.off + 5, none⟩).run Tryd.prog x = .ok (.agg #[.int .i64 i.dev, .int .i64 i.ino]) x ∧ x.cell? ⟨g2, 23, none⟩ = some it := by
  have hcx : ∀ j, j < 13 → x.cell? (p.add j) = (itemC i ir)[j]? := fun j hj => (hb.cell (by rw [add_block]; exact hp)).trans (hcl j hj)
  exact ⟨hb, ld_test (hT.below hb), ld_ctx (hC.below hb), ld_item hcx, ld_file (hcx 5 (by omega)) (hcx 6 (by omega)), (show CtxB x g2 c r it from hC.below hb).items⟩
theorem refl_drew (w : World) : Below w.heap.size w w.drew := (Below.refl _ _).drew
attribute [local irreducible] ctxC textB itemB checkF anyK soundB holdsF evalF hasF
attribute [-go_sem] loadVar
attribute [local go_sem] lv3 lv9 lv33
set_option maxRecDepth 100000 in
set_option maxHeartbeats 16000000 in
theorem revalF (c : Ctx) (r : CRest) (A : Option Addr) (n cp : Nat) (L : List (Itm × IRest)) (hn : n = L.length) (hlen : n ≤ 1000000) (fd op nu : Int) (tx : ByteArray) (ot : Int) (hx : tx.size ≤ maxLen) (w : World) (hL : ItemsAt w w.heap.size A L) :
    Calls Tryd.prog 33 #[testV fd op nu tx ot, ctxV c r (.slice A n cp)] w fun e w' => e = .returned (.bool (evalF c (L.map (·.1)) fd op nu tx ot)) ∧ Below w.heap.size w w' := by
  obtain ⟨hT, hC, hB, hS⟩ := boxTC w fd op nu tx ot c r (.slice A n cp)
  have HK := Lib.hid (fun W => rsoundF fd op nu tx ot hx W)
  have HLN := Lib.hid hn
  have HE1 := Lib.hid (show (soundB fd op nu tx ot = false ∨ hasF c fd = false ∨ (ot ≠ 0 ∧ hasF c ot = false)) → evalF c (L.map (·.1)) fd op nu tx ot = false from fun h => by unfold evalF; rw [if_pos h])
  have HE2 := Lib.hid (show ¬ (soundB fd op nu tx ot = false ∨ hasF c fd = false ∨ (ot ≠ 0 ∧ hasF c ot = false)) → (itemB fd = false ∧ itemB ot = false) → evalF c (L.map (·.1)) fd op nu tx ot = holdsF c fd op nu tx ot Itm.none from fun h k => by unfold evalF; rw [if_neg h, if_pos k])
  have HE3 := Lib.hid (show ¬ (soundB fd op nu tx ot = false ∨ hasF c fd = false ∨ (ot ≠ 0 ∧ hasF c ot = false)) → ¬ (itemB fd = false ∧ itemB ot = false) → evalF c (L.map (·.1)) fd op nu tx ot = (L.map (·.1)).any fun i => liveB i && holdsF c fd op nu tx ot i from fun h k => by unfold evalF; rw [if_neg h, if_neg k])
  have HHF := Lib.hid (fun W => rhasF c r (.slice A n cp) fd W)
  have HHO := Lib.hid (fun W => rhasF c r (.slice A n cp) ot W)
  have HC := Lib.hid hC
  have HB := Lib.hid hB
  have HLI := Lib.hid hL
  have hlT0 := ld_test hT
  clear hC hB hL hn hS
  go_enter Tryd.func33, Tryd.ntmps33
  go_wp2_with fail
  generalize (w.alloc (.cells (testC fd op nu tx ot) 23)).alloc (.cells (ctxC c r (.slice A n cp)) 35) = W at *
  refine (HK.out _).mono ?_
  rintro e w1 ⟨rfl, hb1⟩
  have hT1 : TestB w1 w.heap.size fd op nu tx ot := hT.below hb1
  have HC1 := Lib.hid (show CtxB w1 (w.heap.size + 1) c r (.slice A n cp) from HC.out.below hb1)
  have HB1 := Lib.hid (HB.out.trans (hb1.mono HB.out.size))
  clear hT HC HB HK hb1 hlT0
  have HT1 := Lib.hid hT1
  have q0 := hT1.c0
  have q4 := hT1.c4
  clear hT1
  cases hs : soundB fd op nu tx ot
  · have HF := Lib.hid (HE1.out (.inl hs))
    clear hs
    go_wp2_with fail
    go_ret
    exact ⟨ret_b HF.out.symm, HB1.out⟩
  · obtain ⟨rf, ro, rt⟩ := sound_ranges hs
    have HV := Lib.hid (fun i ir W => roneF c r (.slice A n cp) fd op nu tx ot i ir rf ro rt W)
    have HI1 := Lib.hid (fun W => ritemF fd W)
    have HI2 := Lib.hid (fun W => ritemF ot W)
    have HSO := Lib.hid hs
    clear rf ro rt hs
    go_wp2_with (((with_reducible refine load_blk_g ?_ 35 (.tmp 3) ?_ HC1.out ?_ _ Tryd.underlying35 ?_ ?_ ?_); (iterate 4 rfl); exact ctx_sz _ _ _))
    refine (HHF.out _).mono ?_
    rintro e w2 ⟨rfl, hb2⟩
    have hT2 : TestB w2 w.heap.size fd op nu tx ot := HT1.out.below hb2
    have HC2 := Lib.hid (show CtxB w2 (w.heap.size + 1) c r (.slice A n cp) from HC1.out.below hb2)
    have HB2 := Lib.hid (below_then HB1.out hb2)
    clear HT1 HC1 HB1 hb2 q0 q4
    have HT2 := Lib.hid hT2
    have q0 := hT2.c0
    have q4 := hT2.c4
    clear hT2
    cases h1 : hasF c fd
    · have HF := Lib.hid (HE1.out (.inr (.inl h1)))
      clear h1
      go_wp2_with fail
      go_ret
      exact ⟨ret_b HF.out.symm, HB2.out⟩
    · by_cases h0 : ot = 0
      · have HG := Lib.hid (show ¬ (soundB fd op nu tx ot = false ∨ hasF c fd = false ∨ (ot ≠ 0 ∧ hasF c ot = false)) by rw [HSO.out, h1]; simp [h0])
        have b0 : (ot != 0) = false := by simpa using h0
        clear h1 h0
        go_wp2_with fail
        refine (HI1.out _).mono ?_
        rintro e w9 ⟨rfl, rfl⟩
        cases hf : itemB fd
        · cases ht : itemB ot
          · have HF := Lib.hid (HE2.out HG.out ⟨hf, ht⟩)
            rw [ht] at HI2
            clear hf ht
            go_wp2_with fail
            refine (HI2.out _).mono ?_
            rintro e w9 ⟨rfl, rfl⟩
            have hlT := ld_test HT2.out
            go_wp2_with (((with_reducible refine load_blk ?_ 35 (.tmp 3) ?_ HC2.out ?_ _ Tryd.underlying35 ?_ ?_ ?_); (iterate 4 rfl); exact ctx_sz _ _ _))
            refine (HV.out Itm.none irZ _).mono ?_
            rintro e w10 ⟨rfl, hb10⟩
            have HB10 := Lib.hid (below_then HB2.out hb10)
            go_wp2_with fail
            go_ret
            exact ⟨ret_b HF.out.symm, HB10.out⟩
          · have HF := Lib.hid (HE3.out HG.out (fun h => by rw [ht] at h; cases h.2))
            rw [ht] at HI2
            clear hf ht
            go_wp2_with fail
            refine (HI2.out _).mono ?_
            rintro e w9 ⟨rfl, rfl⟩
            go_wp2_with fail
            go_loopw [5] (fun i wr' => ∃ k : Nat, k ≤ L.length ∧ i = .int .i64 (k : Int) ∧ Hid (∀ j (hj : j < L.length), j < k → (liveB (L[j]'hj).1 && holdsF c fd op nu tx ot (L[j]'hj).1) = false) ∧ Below w2.heap.size w2 wr') (fun i _ => L.length - (intOf i).toNat)
            case atStart => exact ⟨0, Nat.zero_le _, rfl, fun j _ hj => by omega, Below.refl _ _⟩
            case round =>
              obtain ⟨k, hk, rfl, hno, hb⟩ := hrel
              have HBR := Lib.hid (below_then HB2.out hb)
              have hln : n = L.length := HLN.out
              subst hln
              have hCR : CtxB wr (w.heap.size + 1) c r (.slice A L.length cp) := HC2.out.below hb
              have qi := hCR.items
              by_cases hlt : k < L.length
              · obtain ⟨ad, e, hadb, hcl⟩ := (HLI.out.keep HBR.out (Nat.le_refl _)) k hlt
                cases e
                have HTR := Lib.hid (show TestB wr w.heap.size fd op nu tx ot from HT2.out.below hb)
                have HKR := Lib.hid (fun (x : World) (h : Below wr.heap.size wr x) => holdR HTR.out hCR hcl (by rw [add_block]; have := HBR.out.size; omega) h)
                obtain ⟨_, hlT', hlC', hlI', hlF', _⟩ := HKR.out wr (Below.refl _ _)
                have HOLD := Lib.hid hb
                clear hcl hb q0 q4
                generalize hy : L[k]'hlt = y at *
                have HY := Lib.hid hy
                clear hy
                obtain ⟨⟨dev, ino, uid, gid, kind⟩, ⟨gv, pa, dd, di, nm, ro, mo, pe⟩⟩ := y
                simp only at hlF' HKR
                by_cases hd : dev = 0
                · subst hd
                  by_cases hi : ino = 0
                  · subst hi
                    have HN := Lib.hid (show ∀ j (hj : j < L.length), j < k + 1 → (liveB (L[j]'hj).1 && holdsF c fd op nu tx ot (L[j]'hj).1) = false from fun j hj hjk => by
                      by_cases e : j = k
                      · subst e; rw [HY.out]; rfl
                      · exact hno.out j hj (by omega))
                    have HQN := Lib.hid (fun n => (HKR.out (wr.drewN n) (below_drewN (Below.refl _ _) n)).2.2.2.2.1)
                    clear HKR hlT' hlC' hlI' hlF'
                    go_wp2_with fail
                    have hqn : ∀ n, (loadVar 25 ⟨(ad.add (k * 13)).block, (ad.add (k * 13)).off + 5, none⟩).run Tryd.prog (wr.drewN n) = .ok (.agg #[.int .i64 0, .int .i64 0]) (wr.drewN n) := fun n => HQN.out n
                    go_quiet (fail)
                    go_wp2_with fail
                    go_roundw
                    case rel => exact ⟨k + 1, by omega, by go_num, HN, below_drewN HOLD.out _⟩
                    case measure => simp [intOf]; omega
                  · have hib : (ino == 0) = false := by simpa using hi
                    have HV1 := Lib.hid (fun W => HV.out ⟨0, ino, uid, gid, kind⟩ ⟨gv, pa, dd, di, nm, ro, mo, pe⟩ W)
                    go_wp2_with fail
                    go_region_held3 (fun w' => Below wr.heap.size wr w' ∧ (loadVar 23 ⟨w.heap.size, 0, none⟩).run Tryd.prog w' = .ok (.agg (testC fd op nu tx ot)) w' ∧ (loadVar 35 ⟨w.heap.size + 1, 0, none⟩).run Tryd.prog w' = .ok (.agg (ctxC c r (.slice (some ad) L.length cp))) w' ∧ (loadVar 69 (ad.add (k * 13))).run Tryd.prog w' = .ok (.agg (itemC ⟨0, ino, uid, gid, kind⟩ ⟨gv, pa, dd, di, nm, ro, mo, pe⟩)) w' ∧ (loadVar 25 ⟨(ad.add (k * 13)).block, (ad.add (k * 13)).off + 5, none⟩).run Tryd.prog w' = .ok (.agg #[.int .i64 0, .int .i64 ino]) w' ∧ w'.cell? ⟨w.heap.size + 1, 23, none⟩ = some (.slice (some ad) L.length cp))
                      (first | exact HKR.out _ (refl_drew _) | exact HKR.out _ (below_then (And.left (by assumption)) hb5))
                      ((go_at_call 59; refine (HV1.out _).mono ?_; rintro e w5 ⟨rfl, hb5⟩))
                    all_goals
                      cases hh : holdsF c fd op nu tx ot ⟨0, ino, uid, gid, kind⟩
                      · have HN := Lib.hid (show ∀ j (hj : j < L.length), j < k + 1 → (liveB (L[j]'hj).1 && holdsF c fd op nu tx ot (L[j]'hj).1) = false from fun j hj hjk => by
                          by_cases e : j = k
                          · subst e; rw [HY.out, hh]; simp
                          · exact hno.out j hj (by omega))
                        clear hh
                        go_wp2_with fail
                        go_roundw
                        case rel => exact ⟨k + 1, by omega, by go_num, HN, below_then HOLD.out (And.left (by assumption))⟩
                        case measure => simp [intOf]; omega
                      · have HYES := Lib.hid (HF.out.trans (any_yes hlt (by rw [HY.out, hh]; unfold liveB; simp [hi])))
                        clear hh
                        go_wp2_with fail
                        go_ret
                        exact ⟨ret_b HYES.out.symm, below_then HBR.out (And.left (by assumption))⟩
                · have hdb : (dev == 0) = false := by simpa using hd
                  have HV1 := Lib.hid (fun W => HV.out ⟨dev, ino, uid, gid, kind⟩ ⟨gv, pa, dd, di, nm, ro, mo, pe⟩ W)
                  go_wp2_with fail
                  go_region_held3 (fun w' => Below wr.heap.size wr w' ∧ (loadVar 23 ⟨w.heap.size, 0, none⟩).run Tryd.prog w' = .ok (.agg (testC fd op nu tx ot)) w' ∧ (loadVar 35 ⟨w.heap.size + 1, 0, none⟩).run Tryd.prog w' = .ok (.agg (ctxC c r (.slice (some ad) L.length cp))) w' ∧ (loadVar 69 (ad.add (k * 13))).run Tryd.prog w' = .ok (.agg (itemC ⟨dev, ino, uid, gid, kind⟩ ⟨gv, pa, dd, di, nm, ro, mo, pe⟩)) w' ∧ (loadVar 25 ⟨(ad.add (k * 13)).block, (ad.add (k * 13)).off + 5, none⟩).run Tryd.prog w' = .ok (.agg #[.int .i64 dev, .int .i64 ino]) w' ∧ w'.cell? ⟨w.heap.size + 1, 23, none⟩ = some (.slice (some ad) L.length cp))
                    (first | exact HKR.out _ (refl_drew _) | exact HKR.out _ (below_then (And.left (by assumption)) hb5))
                    ((go_at_call 59; refine (HV1.out _).mono ?_; rintro e w5 ⟨rfl, hb5⟩))
                  all_goals
                    cases hh : holdsF c fd op nu tx ot ⟨dev, ino, uid, gid, kind⟩
                    · have HN := Lib.hid (show ∀ j (hj : j < L.length), j < k + 1 → (liveB (L[j]'hj).1 && holdsF c fd op nu tx ot (L[j]'hj).1) = false from fun j hj hjk => by
                        by_cases e : j = k
                        · subst e; rw [HY.out, hh]; simp
                        · exact hno.out j hj (by omega))
                      clear hh
                      go_wp2_with fail
                      go_roundw
                      case rel => exact ⟨k + 1, by omega, by go_num, HN, below_then HOLD.out (And.left (by assumption))⟩
                      case measure => simp [intOf]; omega
                    · have HYES := Lib.hid (HF.out.trans (any_yes hlt (by rw [HY.out, hh]; unfold liveB; simp [hd])))
                      clear hh
                      go_wp2_with fail
                      go_ret
                      exact ⟨ret_b HYES.out.symm, below_then HBR.out (And.left (by assumption))⟩
              · have HNO := Lib.hid (HF.out.trans (any_no fun j hj => hno.out j hj (by omega)))
                clear hb q0 q4
                go_wp2_with fail
                go_ret
                exact ⟨ret_b HNO.out.symm, HBR.out⟩
        · have HF := Lib.hid (HE3.out HG.out (fun h => by rw [hf] at h; cases h.1))
          clear hf
          go_wp2_with fail
          go_loopw [5] (fun i wr' => ∃ k : Nat, k ≤ L.length ∧ i = .int .i64 (k : Int) ∧ Hid (∀ j (hj : j < L.length), j < k → (liveB (L[j]'hj).1 && holdsF c fd op nu tx ot (L[j]'hj).1) = false) ∧ Below w2.heap.size w2 wr') (fun i _ => L.length - (intOf i).toNat)
          case atStart => exact ⟨0, Nat.zero_le _, rfl, fun j _ hj => by omega, Below.refl _ _⟩
          case round =>
            obtain ⟨k, hk, rfl, hno, hb⟩ := hrel
            have HBR := Lib.hid (below_then HB2.out hb)
            have hln : n = L.length := HLN.out
            subst hln
            have hCR : CtxB wr (w.heap.size + 1) c r (.slice A L.length cp) := HC2.out.below hb
            have qi := hCR.items
            by_cases hlt : k < L.length
            · obtain ⟨ad, e, hadb, hcl⟩ := (HLI.out.keep HBR.out (Nat.le_refl _)) k hlt
              cases e
              have HTR := Lib.hid (show TestB wr w.heap.size fd op nu tx ot from HT2.out.below hb)
              have HKR := Lib.hid (fun (x : World) (h : Below wr.heap.size wr x) => holdR HTR.out hCR hcl (by rw [add_block]; have := HBR.out.size; omega) h)
              obtain ⟨_, hlT', hlC', hlI', hlF', _⟩ := HKR.out wr (Below.refl _ _)
              have HOLD := Lib.hid hb
              clear hcl hb q0 q4
              generalize hy : L[k]'hlt = y at *
              have HY := Lib.hid hy
              clear hy
              obtain ⟨⟨dev, ino, uid, gid, kind⟩, ⟨gv, pa, dd, di, nm, ro, mo, pe⟩⟩ := y
              simp only at hlF' HKR
              by_cases hd : dev = 0
              · subst hd
                by_cases hi : ino = 0
                · subst hi
                  have HN := Lib.hid (show ∀ j (hj : j < L.length), j < k + 1 → (liveB (L[j]'hj).1 && holdsF c fd op nu tx ot (L[j]'hj).1) = false from fun j hj hjk => by
                    by_cases e : j = k
                    · subst e; rw [HY.out]; rfl
                    · exact hno.out j hj (by omega))
                  have HQN := Lib.hid (fun n => (HKR.out (wr.drewN n) (below_drewN (Below.refl _ _) n)).2.2.2.2.1)
                  clear HKR hlT' hlC' hlI' hlF'
                  go_wp2_with fail
                  have hqn : ∀ n, (loadVar 25 ⟨(ad.add (k * 13)).block, (ad.add (k * 13)).off + 5, none⟩).run Tryd.prog (wr.drewN n) = .ok (.agg #[.int .i64 0, .int .i64 0]) (wr.drewN n) := fun n => HQN.out n
                  go_quiet (fail)
                  go_wp2_with fail
                  go_roundw
                  case rel => exact ⟨k + 1, by omega, by go_num, HN, below_drewN HOLD.out _⟩
                  case measure => simp [intOf]; omega
                · have hib : (ino == 0) = false := by simpa using hi
                  have HV1 := Lib.hid (fun W => HV.out ⟨0, ino, uid, gid, kind⟩ ⟨gv, pa, dd, di, nm, ro, mo, pe⟩ W)
                  go_wp2_with fail
                  go_region_held3 (fun w' => Below wr.heap.size wr w' ∧ (loadVar 23 ⟨w.heap.size, 0, none⟩).run Tryd.prog w' = .ok (.agg (testC fd op nu tx ot)) w' ∧ (loadVar 35 ⟨w.heap.size + 1, 0, none⟩).run Tryd.prog w' = .ok (.agg (ctxC c r (.slice (some ad) L.length cp))) w' ∧ (loadVar 69 (ad.add (k * 13))).run Tryd.prog w' = .ok (.agg (itemC ⟨0, ino, uid, gid, kind⟩ ⟨gv, pa, dd, di, nm, ro, mo, pe⟩)) w' ∧ (loadVar 25 ⟨(ad.add (k * 13)).block, (ad.add (k * 13)).off + 5, none⟩).run Tryd.prog w' = .ok (.agg #[.int .i64 0, .int .i64 ino]) w' ∧ w'.cell? ⟨w.heap.size + 1, 23, none⟩ = some (.slice (some ad) L.length cp))
                    (first | exact HKR.out _ (refl_drew _) | exact HKR.out _ (below_then (And.left (by assumption)) hb5))
                    ((go_at_call 59; refine (HV1.out _).mono ?_; rintro e w5 ⟨rfl, hb5⟩))
                  all_goals
                    cases hh : holdsF c fd op nu tx ot ⟨0, ino, uid, gid, kind⟩
                    · have HN := Lib.hid (show ∀ j (hj : j < L.length), j < k + 1 → (liveB (L[j]'hj).1 && holdsF c fd op nu tx ot (L[j]'hj).1) = false from fun j hj hjk => by
                        by_cases e : j = k
                        · subst e; rw [HY.out, hh]; simp
                        · exact hno.out j hj (by omega))
                      clear hh
                      go_wp2_with fail
                      go_roundw
                      case rel => exact ⟨k + 1, by omega, by go_num, HN, below_then HOLD.out (And.left (by assumption))⟩
                      case measure => simp [intOf]; omega
                    · have HYES := Lib.hid (HF.out.trans (any_yes hlt (by rw [HY.out, hh]; unfold liveB; simp [hi])))
                      clear hh
                      go_wp2_with fail
                      go_ret
                      exact ⟨ret_b HYES.out.symm, below_then HBR.out (And.left (by assumption))⟩
              · have hdb : (dev == 0) = false := by simpa using hd
                have HV1 := Lib.hid (fun W => HV.out ⟨dev, ino, uid, gid, kind⟩ ⟨gv, pa, dd, di, nm, ro, mo, pe⟩ W)
                go_wp2_with fail
                go_region_held3 (fun w' => Below wr.heap.size wr w' ∧ (loadVar 23 ⟨w.heap.size, 0, none⟩).run Tryd.prog w' = .ok (.agg (testC fd op nu tx ot)) w' ∧ (loadVar 35 ⟨w.heap.size + 1, 0, none⟩).run Tryd.prog w' = .ok (.agg (ctxC c r (.slice (some ad) L.length cp))) w' ∧ (loadVar 69 (ad.add (k * 13))).run Tryd.prog w' = .ok (.agg (itemC ⟨dev, ino, uid, gid, kind⟩ ⟨gv, pa, dd, di, nm, ro, mo, pe⟩)) w' ∧ (loadVar 25 ⟨(ad.add (k * 13)).block, (ad.add (k * 13)).off + 5, none⟩).run Tryd.prog w' = .ok (.agg #[.int .i64 dev, .int .i64 ino]) w' ∧ w'.cell? ⟨w.heap.size + 1, 23, none⟩ = some (.slice (some ad) L.length cp))
                  (first | exact HKR.out _ (refl_drew _) | exact HKR.out _ (below_then (And.left (by assumption)) hb5))
                  ((go_at_call 59; refine (HV1.out _).mono ?_; rintro e w5 ⟨rfl, hb5⟩))
                all_goals
                  cases hh : holdsF c fd op nu tx ot ⟨dev, ino, uid, gid, kind⟩
                  · have HN := Lib.hid (show ∀ j (hj : j < L.length), j < k + 1 → (liveB (L[j]'hj).1 && holdsF c fd op nu tx ot (L[j]'hj).1) = false from fun j hj hjk => by
                      by_cases e : j = k
                      · subst e; rw [HY.out, hh]; simp
                      · exact hno.out j hj (by omega))
                    clear hh
                    go_wp2_with fail
                    go_roundw
                    case rel => exact ⟨k + 1, by omega, by go_num, HN, below_then HOLD.out (And.left (by assumption))⟩
                    case measure => simp [intOf]; omega
                  · have HYES := Lib.hid (HF.out.trans (any_yes hlt (by rw [HY.out, hh]; unfold liveB; simp [hd])))
                    clear hh
                    go_wp2_with fail
                    go_ret
                    exact ⟨ret_b HYES.out.symm, below_then HBR.out (And.left (by assumption))⟩
            · have HNO := Lib.hid (HF.out.trans (any_no fun j hj => hno.out j hj (by omega)))
              clear hb q0 q4
              go_wp2_with fail
              go_ret
              exact ⟨ret_b HNO.out.symm, HBR.out⟩
      · have b0 : (ot != 0) = true := by simpa using h0
        have H0 := Lib.hid h0
        have H1 := Lib.hid h1
        clear h0 h1
        go_wp2_with (((with_reducible refine load_blk_g ?_ 35 (.tmp 3) ?_ HC2.out ?_ _ Tryd.underlying35 ?_ ?_ ?_); (iterate 4 rfl); exact ctx_sz _ _ _))
        refine (HHO.out _).mono ?_
        rintro e w3 ⟨rfl, hb3⟩
        have hT3 : TestB w3 w.heap.size fd op nu tx ot := HT2.out.below hb3
        have HC3 := Lib.hid (show CtxB w3 (w.heap.size + 1) c r (.slice A n cp) from HC2.out.below hb3)
        have HB3 := Lib.hid (below_then HB2.out hb3)
        clear HT2 HC2 HB2 hb3 q0 q4
        have HT3 := Lib.hid hT3
        have q0 := hT3.c0
        have q4 := hT3.c4
        clear hT3
        cases h2 : hasF c ot
        · have HF := Lib.hid (HE1.out (.inr (.inr ⟨H0.out, h2⟩)))
          clear h2
          go_wp2_with fail
          go_ret
          exact ⟨ret_b HF.out.symm, HB3.out⟩
        · have HG := Lib.hid (show ¬ (soundB fd op nu tx ot = false ∨ hasF c fd = false ∨ (ot ≠ 0 ∧ hasF c ot = false)) by rw [HSO.out, H1.out, h2]; simp)
          clear h2
          go_wp2_with fail
          refine (HI1.out _).mono ?_
          rintro e w9 ⟨rfl, rfl⟩
          cases hf : itemB fd
          · cases ht : itemB ot
            · have HF := Lib.hid (HE2.out HG.out ⟨hf, ht⟩)
              rw [ht] at HI2
              clear hf ht
              go_wp2_with fail
              refine (HI2.out _).mono ?_
              rintro e w9 ⟨rfl, rfl⟩
              have hlT := ld_test HT3.out
              go_wp2_with (((with_reducible refine load_blk ?_ 35 (.tmp 3) ?_ HC3.out ?_ _ Tryd.underlying35 ?_ ?_ ?_); (iterate 4 rfl); exact ctx_sz _ _ _))
              refine (HV.out Itm.none irZ _).mono ?_
              rintro e w10 ⟨rfl, hb10⟩
              have HB10 := Lib.hid (below_then HB3.out hb10)
              go_wp2_with fail
              go_ret
              exact ⟨ret_b HF.out.symm, HB10.out⟩
            · have HF := Lib.hid (HE3.out HG.out (fun h => by rw [ht] at h; cases h.2))
              rw [ht] at HI2
              clear hf ht
              go_wp2_with fail
              refine (HI2.out _).mono ?_
              rintro e w9 ⟨rfl, rfl⟩
              go_wp2_with fail
              go_loopw [5] (fun i wr' => ∃ k : Nat, k ≤ L.length ∧ i = .int .i64 (k : Int) ∧ Hid (∀ j (hj : j < L.length), j < k → (liveB (L[j]'hj).1 && holdsF c fd op nu tx ot (L[j]'hj).1) = false) ∧ Below w3.heap.size w3 wr') (fun i _ => L.length - (intOf i).toNat)
              case atStart => exact ⟨0, Nat.zero_le _, rfl, fun j _ hj => by omega, Below.refl _ _⟩
              case round =>
                obtain ⟨k, hk, rfl, hno, hb⟩ := hrel
                have HBR := Lib.hid (below_then HB3.out hb)
                have hln : n = L.length := HLN.out
                subst hln
                have hCR : CtxB wr (w.heap.size + 1) c r (.slice A L.length cp) := HC3.out.below hb
                have qi := hCR.items
                by_cases hlt : k < L.length
                · obtain ⟨ad, e, hadb, hcl⟩ := (HLI.out.keep HBR.out (Nat.le_refl _)) k hlt
                  cases e
                  have HTR := Lib.hid (show TestB wr w.heap.size fd op nu tx ot from HT3.out.below hb)
                  have HKR := Lib.hid (fun (x : World) (h : Below wr.heap.size wr x) => holdR HTR.out hCR hcl (by rw [add_block]; have := HBR.out.size; omega) h)
                  obtain ⟨_, hlT', hlC', hlI', hlF', _⟩ := HKR.out wr (Below.refl _ _)
                  have HOLD := Lib.hid hb
                  clear hcl hb q0 q4
                  generalize hy : L[k]'hlt = y at *
                  have HY := Lib.hid hy
                  clear hy
                  obtain ⟨⟨dev, ino, uid, gid, kind⟩, ⟨gv, pa, dd, di, nm, ro, mo, pe⟩⟩ := y
                  simp only at hlF' HKR
                  by_cases hd : dev = 0
                  · subst hd
                    by_cases hi : ino = 0
                    · subst hi
                      have HN := Lib.hid (show ∀ j (hj : j < L.length), j < k + 1 → (liveB (L[j]'hj).1 && holdsF c fd op nu tx ot (L[j]'hj).1) = false from fun j hj hjk => by
                        by_cases e : j = k
                        · subst e; rw [HY.out]; rfl
                        · exact hno.out j hj (by omega))
                      have HQN := Lib.hid (fun n => (HKR.out (wr.drewN n) (below_drewN (Below.refl _ _) n)).2.2.2.2.1)
                      clear HKR hlT' hlC' hlI' hlF'
                      go_wp2_with fail
                      have hqn : ∀ n, (loadVar 25 ⟨(ad.add (k * 13)).block, (ad.add (k * 13)).off + 5, none⟩).run Tryd.prog (wr.drewN n) = .ok (.agg #[.int .i64 0, .int .i64 0]) (wr.drewN n) := fun n => HQN.out n
                      go_quiet (fail)
                      go_wp2_with fail
                      go_roundw
                      case rel => exact ⟨k + 1, by omega, by go_num, HN, below_drewN HOLD.out _⟩
                      case measure => simp [intOf]; omega
                    · have hib : (ino == 0) = false := by simpa using hi
                      have HV1 := Lib.hid (fun W => HV.out ⟨0, ino, uid, gid, kind⟩ ⟨gv, pa, dd, di, nm, ro, mo, pe⟩ W)
                      go_wp2_with fail
                      go_region_held3 (fun w' => Below wr.heap.size wr w' ∧ (loadVar 23 ⟨w.heap.size, 0, none⟩).run Tryd.prog w' = .ok (.agg (testC fd op nu tx ot)) w' ∧ (loadVar 35 ⟨w.heap.size + 1, 0, none⟩).run Tryd.prog w' = .ok (.agg (ctxC c r (.slice (some ad) L.length cp))) w' ∧ (loadVar 69 (ad.add (k * 13))).run Tryd.prog w' = .ok (.agg (itemC ⟨0, ino, uid, gid, kind⟩ ⟨gv, pa, dd, di, nm, ro, mo, pe⟩)) w' ∧ (loadVar 25 ⟨(ad.add (k * 13)).block, (ad.add (k * 13)).off + 5, none⟩).run Tryd.prog w' = .ok (.agg #[.int .i64 0, .int .i64 ino]) w' ∧ w'.cell? ⟨w.heap.size + 1, 23, none⟩ = some (.slice (some ad) L.length cp))
                        (first | exact HKR.out _ (refl_drew _) | exact HKR.out _ (below_then (And.left (by assumption)) hb5))
                        ((go_at_call 59; refine (HV1.out _).mono ?_; rintro e w5 ⟨rfl, hb5⟩))
                      all_goals
                        cases hh : holdsF c fd op nu tx ot ⟨0, ino, uid, gid, kind⟩
                        · have HN := Lib.hid (show ∀ j (hj : j < L.length), j < k + 1 → (liveB (L[j]'hj).1 && holdsF c fd op nu tx ot (L[j]'hj).1) = false from fun j hj hjk => by
                            by_cases e : j = k
                            · subst e; rw [HY.out, hh]; simp
                            · exact hno.out j hj (by omega))
                          clear hh
                          go_wp2_with fail
                          go_roundw
                          case rel => exact ⟨k + 1, by omega, by go_num, HN, below_then HOLD.out (And.left (by assumption))⟩
                          case measure => simp [intOf]; omega
                        · have HYES := Lib.hid (HF.out.trans (any_yes hlt (by rw [HY.out, hh]; unfold liveB; simp [hi])))
                          clear hh
                          go_wp2_with fail
                          go_ret
                          exact ⟨ret_b HYES.out.symm, below_then HBR.out (And.left (by assumption))⟩
                  · have hdb : (dev == 0) = false := by simpa using hd
                    have HV1 := Lib.hid (fun W => HV.out ⟨dev, ino, uid, gid, kind⟩ ⟨gv, pa, dd, di, nm, ro, mo, pe⟩ W)
                    go_wp2_with fail
                    go_region_held3 (fun w' => Below wr.heap.size wr w' ∧ (loadVar 23 ⟨w.heap.size, 0, none⟩).run Tryd.prog w' = .ok (.agg (testC fd op nu tx ot)) w' ∧ (loadVar 35 ⟨w.heap.size + 1, 0, none⟩).run Tryd.prog w' = .ok (.agg (ctxC c r (.slice (some ad) L.length cp))) w' ∧ (loadVar 69 (ad.add (k * 13))).run Tryd.prog w' = .ok (.agg (itemC ⟨dev, ino, uid, gid, kind⟩ ⟨gv, pa, dd, di, nm, ro, mo, pe⟩)) w' ∧ (loadVar 25 ⟨(ad.add (k * 13)).block, (ad.add (k * 13)).off + 5, none⟩).run Tryd.prog w' = .ok (.agg #[.int .i64 dev, .int .i64 ino]) w' ∧ w'.cell? ⟨w.heap.size + 1, 23, none⟩ = some (.slice (some ad) L.length cp))
                      (first | exact HKR.out _ (refl_drew _) | exact HKR.out _ (below_then (And.left (by assumption)) hb5))
                      ((go_at_call 59; refine (HV1.out _).mono ?_; rintro e w5 ⟨rfl, hb5⟩))
                    all_goals
                      cases hh : holdsF c fd op nu tx ot ⟨dev, ino, uid, gid, kind⟩
                      · have HN := Lib.hid (show ∀ j (hj : j < L.length), j < k + 1 → (liveB (L[j]'hj).1 && holdsF c fd op nu tx ot (L[j]'hj).1) = false from fun j hj hjk => by
                          by_cases e : j = k
                          · subst e; rw [HY.out, hh]; simp
                          · exact hno.out j hj (by omega))
                        clear hh
                        go_wp2_with fail
                        go_roundw
                        case rel => exact ⟨k + 1, by omega, by go_num, HN, below_then HOLD.out (And.left (by assumption))⟩
                        case measure => simp [intOf]; omega
                      · have HYES := Lib.hid (HF.out.trans (any_yes hlt (by rw [HY.out, hh]; unfold liveB; simp [hd])))
                        clear hh
                        go_wp2_with fail
                        go_ret
                        exact ⟨ret_b HYES.out.symm, below_then HBR.out (And.left (by assumption))⟩
                · have HNO := Lib.hid (HF.out.trans (any_no fun j hj => hno.out j hj (by omega)))
                  clear hb q0 q4
                  go_wp2_with fail
                  go_ret
                  exact ⟨ret_b HNO.out.symm, HBR.out⟩
          · have HF := Lib.hid (HE3.out HG.out (fun h => by rw [hf] at h; cases h.1))
            clear hf
            go_wp2_with fail
            go_loopw [5] (fun i wr' => ∃ k : Nat, k ≤ L.length ∧ i = .int .i64 (k : Int) ∧ Hid (∀ j (hj : j < L.length), j < k → (liveB (L[j]'hj).1 && holdsF c fd op nu tx ot (L[j]'hj).1) = false) ∧ Below w3.heap.size w3 wr') (fun i _ => L.length - (intOf i).toNat)
            case atStart => exact ⟨0, Nat.zero_le _, rfl, fun j _ hj => by omega, Below.refl _ _⟩
            case round =>
              obtain ⟨k, hk, rfl, hno, hb⟩ := hrel
              have HBR := Lib.hid (below_then HB3.out hb)
              have hln : n = L.length := HLN.out
              subst hln
              have hCR : CtxB wr (w.heap.size + 1) c r (.slice A L.length cp) := HC3.out.below hb
              have qi := hCR.items
              by_cases hlt : k < L.length
              · obtain ⟨ad, e, hadb, hcl⟩ := (HLI.out.keep HBR.out (Nat.le_refl _)) k hlt
                cases e
                have HTR := Lib.hid (show TestB wr w.heap.size fd op nu tx ot from HT3.out.below hb)
                have HKR := Lib.hid (fun (x : World) (h : Below wr.heap.size wr x) => holdR HTR.out hCR hcl (by rw [add_block]; have := HBR.out.size; omega) h)
                obtain ⟨_, hlT', hlC', hlI', hlF', _⟩ := HKR.out wr (Below.refl _ _)
                have HOLD := Lib.hid hb
                clear hcl hb q0 q4
                generalize hy : L[k]'hlt = y at *
                have HY := Lib.hid hy
                clear hy
                obtain ⟨⟨dev, ino, uid, gid, kind⟩, ⟨gv, pa, dd, di, nm, ro, mo, pe⟩⟩ := y
                simp only at hlF' HKR
                by_cases hd : dev = 0
                · subst hd
                  by_cases hi : ino = 0
                  · subst hi
                    have HN := Lib.hid (show ∀ j (hj : j < L.length), j < k + 1 → (liveB (L[j]'hj).1 && holdsF c fd op nu tx ot (L[j]'hj).1) = false from fun j hj hjk => by
                      by_cases e : j = k
                      · subst e; rw [HY.out]; rfl
                      · exact hno.out j hj (by omega))
                    have HQN := Lib.hid (fun n => (HKR.out (wr.drewN n) (below_drewN (Below.refl _ _) n)).2.2.2.2.1)
                    clear HKR hlT' hlC' hlI' hlF'
                    go_wp2_with fail
                    have hqn : ∀ n, (loadVar 25 ⟨(ad.add (k * 13)).block, (ad.add (k * 13)).off + 5, none⟩).run Tryd.prog (wr.drewN n) = .ok (.agg #[.int .i64 0, .int .i64 0]) (wr.drewN n) := fun n => HQN.out n
                    go_quiet (fail)
                    go_wp2_with fail
                    go_roundw
                    case rel => exact ⟨k + 1, by omega, by go_num, HN, below_drewN HOLD.out _⟩
                    case measure => simp [intOf]; omega
                  · have hib : (ino == 0) = false := by simpa using hi
                    have HV1 := Lib.hid (fun W => HV.out ⟨0, ino, uid, gid, kind⟩ ⟨gv, pa, dd, di, nm, ro, mo, pe⟩ W)
                    go_wp2_with fail
                    go_region_held3 (fun w' => Below wr.heap.size wr w' ∧ (loadVar 23 ⟨w.heap.size, 0, none⟩).run Tryd.prog w' = .ok (.agg (testC fd op nu tx ot)) w' ∧ (loadVar 35 ⟨w.heap.size + 1, 0, none⟩).run Tryd.prog w' = .ok (.agg (ctxC c r (.slice (some ad) L.length cp))) w' ∧ (loadVar 69 (ad.add (k * 13))).run Tryd.prog w' = .ok (.agg (itemC ⟨0, ino, uid, gid, kind⟩ ⟨gv, pa, dd, di, nm, ro, mo, pe⟩)) w' ∧ (loadVar 25 ⟨(ad.add (k * 13)).block, (ad.add (k * 13)).off + 5, none⟩).run Tryd.prog w' = .ok (.agg #[.int .i64 0, .int .i64 ino]) w' ∧ w'.cell? ⟨w.heap.size + 1, 23, none⟩ = some (.slice (some ad) L.length cp))
                      (first | exact HKR.out _ (refl_drew _) | exact HKR.out _ (below_then (And.left (by assumption)) hb5))
                      ((go_at_call 59; refine (HV1.out _).mono ?_; rintro e w5 ⟨rfl, hb5⟩))
                    all_goals
                      cases hh : holdsF c fd op nu tx ot ⟨0, ino, uid, gid, kind⟩
                      · have HN := Lib.hid (show ∀ j (hj : j < L.length), j < k + 1 → (liveB (L[j]'hj).1 && holdsF c fd op nu tx ot (L[j]'hj).1) = false from fun j hj hjk => by
                          by_cases e : j = k
                          · subst e; rw [HY.out, hh]; simp
                          · exact hno.out j hj (by omega))
                        clear hh
                        go_wp2_with fail
                        go_roundw
                        case rel => exact ⟨k + 1, by omega, by go_num, HN, below_then HOLD.out (And.left (by assumption))⟩
                        case measure => simp [intOf]; omega
                      · have HYES := Lib.hid (HF.out.trans (any_yes hlt (by rw [HY.out, hh]; unfold liveB; simp [hi])))
                        clear hh
                        go_wp2_with fail
                        go_ret
                        exact ⟨ret_b HYES.out.symm, below_then HBR.out (And.left (by assumption))⟩
                · have hdb : (dev == 0) = false := by simpa using hd
                  have HV1 := Lib.hid (fun W => HV.out ⟨dev, ino, uid, gid, kind⟩ ⟨gv, pa, dd, di, nm, ro, mo, pe⟩ W)
                  go_wp2_with fail
                  go_region_held3 (fun w' => Below wr.heap.size wr w' ∧ (loadVar 23 ⟨w.heap.size, 0, none⟩).run Tryd.prog w' = .ok (.agg (testC fd op nu tx ot)) w' ∧ (loadVar 35 ⟨w.heap.size + 1, 0, none⟩).run Tryd.prog w' = .ok (.agg (ctxC c r (.slice (some ad) L.length cp))) w' ∧ (loadVar 69 (ad.add (k * 13))).run Tryd.prog w' = .ok (.agg (itemC ⟨dev, ino, uid, gid, kind⟩ ⟨gv, pa, dd, di, nm, ro, mo, pe⟩)) w' ∧ (loadVar 25 ⟨(ad.add (k * 13)).block, (ad.add (k * 13)).off + 5, none⟩).run Tryd.prog w' = .ok (.agg #[.int .i64 dev, .int .i64 ino]) w' ∧ w'.cell? ⟨w.heap.size + 1, 23, none⟩ = some (.slice (some ad) L.length cp))
                    (first | exact HKR.out _ (refl_drew _) | exact HKR.out _ (below_then (And.left (by assumption)) hb5))
                    ((go_at_call 59; refine (HV1.out _).mono ?_; rintro e w5 ⟨rfl, hb5⟩))
                  all_goals
                    cases hh : holdsF c fd op nu tx ot ⟨dev, ino, uid, gid, kind⟩
                    · have HN := Lib.hid (show ∀ j (hj : j < L.length), j < k + 1 → (liveB (L[j]'hj).1 && holdsF c fd op nu tx ot (L[j]'hj).1) = false from fun j hj hjk => by
                        by_cases e : j = k
                        · subst e; rw [HY.out, hh]; simp
                        · exact hno.out j hj (by omega))
                      clear hh
                      go_wp2_with fail
                      go_roundw
                      case rel => exact ⟨k + 1, by omega, by go_num, HN, below_then HOLD.out (And.left (by assumption))⟩
                      case measure => simp [intOf]; omega
                    · have HYES := Lib.hid (HF.out.trans (any_yes hlt (by rw [HY.out, hh]; unfold liveB; simp [hd])))
                      clear hh
                      go_wp2_with fail
                      go_ret
                      exact ⟨ret_b HYES.out.symm, below_then HBR.out (And.left (by assumption))⟩
              · have HNO := Lib.hid (HF.out.trans (any_no fun j hj => hno.out j hj (by omega)))
                clear hb q0 q4
                go_wp2_with fail
                go_ret
                exact ⟨ret_b HNO.out.symm, HBR.out⟩
end Go.Proofs.YtnpaoepkpdileaaDoor

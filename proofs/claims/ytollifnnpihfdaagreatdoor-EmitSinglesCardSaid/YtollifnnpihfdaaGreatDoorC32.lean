/- Texts of one proof, laid together. -/
import Derived.Test.YtollifnnpihfdaaGreatDoorC30
import Derived.Test.YtollifnnpihfdaaGreatDoorC14
/- Eval of the program returns evalP. -/
namespace Go.Proofs.YtollifnnpihfdaaGreatDoor
open Go.RowKit
/-- The slice at A reads as the items L; it lies below block B. -/
def ItemsAt (w : World) (B : Nat) (A : Option Addr) (L : List (Itm × IRest)) : Prop := ∀ k (hk : k < L.length), ∃ ad : Addr, A = some ad ∧ ad.block < B ∧ ∀ j, j < 13 → w.cell? ((ad.add (k * 13)).add j) = (itemC (L[k]'hk).1 (L[k]'hk).2)[j]?
theorem add_block (a : Addr) (n : Nat) : (a.add n).block = a.block := by unfold Addr.add; split <;> rfl
theorem ItemsAt.keep {w w' : World} {B B' : Nat} {A : Option Addr} {L : List (Itm × IRest)} (h : ItemsAt w B A L) (hb : Below B' w w') (hB : B ≤ B') : ItemsAt w' B A L := fun k hk => by
  obtain ⟨ad, e, hl, hc⟩ := h k hk
  exact ⟨ad, e, hl, fun j hj => (hb.cell (by rw [add_block, add_block]; omega)).trans (hc j hj)⟩
theorem ItemsAt.more {w : World} {B B' : Nat} {A : Option Addr} {L : List (Itm × IRest)} (h : ItemsAt w B A L) (hB : B ≤ B') : ItemsAt w B' A L := fun k hk => by
  obtain ⟨ad, e, hl, hc⟩ := h k hk
  exact ⟨ad, e, by omega, hc⟩
theorem ItemsAt.nil {w : World} {B : Nat} {A : Option Addr} : ItemsAt w B A [] := fun k hk => by simp at hk
theorem item_cells {w : World} {a : Addr} {i : Itm} {r : IRest} (h : ∀ j, j < 13 → w.cell? (a.add j) = (itemC i r)[j]?) :
    w.cell? a = some (.string r.gv) ∧ w.cell? ⟨a.block, a.off + 1, none⟩ = some (.string r.pa) ∧ w.cell? ⟨a.block, a.off + 2, none⟩ = some (.int .i64 r.dd) ∧ w.cell? ⟨a.block, a.off + 3, none⟩ = some (.int .i64 r.di) ∧ w.cell? ⟨a.block, a.off + 4, none⟩ = some (.string r.nm) ∧ w.cell? ⟨a.block, a.off + 5, none⟩ = some (.int .i64 i.dev) ∧ w.cell? ⟨a.block, a.off + 6, none⟩ = some (.int .i64 i.ino) ∧ w.cell? ⟨a.block, a.off + 7, none⟩ = some (.int .i64 r.ro) ∧ w.cell? ⟨a.block, a.off + 8, none⟩ = some (.int .i64 i.kind) ∧ w.cell? ⟨a.block, a.off + 9, none⟩ = some (.int .i64 r.mo) ∧ w.cell? ⟨a.block, a.off + 10, none⟩ = some (.int .i64 i.uid) ∧ w.cell? ⟨a.block, a.off + 11, none⟩ = some (.int .i64 i.gid) ∧ w.cell? ⟨a.block, a.off + 12, none⟩ = some (.int .i64 r.pe) :=
  ⟨h 0 (by omega), h 1 (by omega), h 2 (by omega), h 3 (by omega), h 4 (by omega), h 5 (by omega), h 6 (by omega), h 7 (by omega), h 8 (by omega), h 9 (by omega), h 10 (by omega), h 11 (by omega), h 12 (by omega)⟩
/-- The lists from 1 to k that permit the test. -/
def anyK (fd op nu : Int) (tx : ByteArray) (ot : Int) (k : Nat) : Bool := (List.range k).any fun j => checkF fd op nu tx ot ((j : Int) + 1) == 0
theorem anyK_succ (fd op nu : Int) (tx : ByteArray) (ot : Int) (k : Nat) : anyK fd op nu tx ot (k + 1) = (anyK fd op nu tx ot k || (checkF fd op nu tx ot ((k : Int) + 1) == 0)) := by
  unfold anyK; rw [List.range_succ, List.any_append]; simp
theorem anyK_five (fd op nu : Int) (tx : ByteArray) (ot : Int) : anyK fd op nu tx ot 5 = soundB fd op nu tx ot := by
  unfold anyK soundB
  simp [List.range_succ, deq, Bool.or_assoc]
def irZ : IRest := ⟨⟨#[]⟩, ⟨#[]⟩, 0, 0, ⟨#[]⟩, 0, 0, 0⟩
theorem sound_ranges {fd op nu : Int} {tx : ByteArray} {ot : Int} (h : soundB fd op nu tx ot = true) : (1 ≤ fd ∧ fd ≤ 22) ∧ (1 ≤ op ∧ op ≤ 8) ∧ (ot = 0 ∨ ((1 ≤ ot ∧ ot ≤ 22) ∧ ot ≠ 13 ∧ ot ≠ 14)) := by
  obtain ⟨l, hl⟩ := sound_some h
  obtain ⟨c1, c2, c3, c4, c5, c6, c7⟩ := checkF_zero hl
  refine ⟨allow_range c1, c3, ?_⟩
  rcases c2 with c2 | c2
  · exact .inl c2
  · have := textB_no (owner_text c2.2.2)
    exact .inr ⟨allow_range c2.1, this.1, this.2⟩
theorem boxTC (w : World) (fd op nu : Int) (tx : ByteArray) (ot : Int) (c : Ctx) (r : CRest) (it : Value) :
    TestB ((w.alloc (.cells (testC fd op nu tx ot) 85)).alloc (.cells (ctxC c r it) 54)) w.heap.size fd op nu tx ot ∧
    CtxB ((w.alloc (.cells (testC fd op nu tx ot) 85)).alloc (.cells (ctxC c r it) 54)) (w.heap.size + 1) c r it ∧
    Below w.heap.size w ((w.alloc (.cells (testC fd op nu tx ot) 85)).alloc (.cells (ctxC c r it) 54)) ∧ ((w.alloc (.cells (testC fd op nu tx ot) 85)).alloc (.cells (ctxC c r it) 54)).heap.size = w.heap.size + 1 + 1 := by
  refine ⟨(Blk.new w _ _).alloc _, ?_, ((Below.refl _ _).alloc (Nat.le_refl _) _).alloc (by simp) _, by simp⟩
  have := Blk.new (w.alloc (.cells (testC fd op nu tx ot) 85)) (ctxC c r it) 54
  simpa using this
theorem any_no {L : List (Itm × IRest)} {p : Itm → Bool} (h : ∀ j (hj : j < L.length), p (L[j]'hj).1 = false) : (L.map (·.1)).any p = false := by
  rw [List.any_eq_false]
  intro x hx
  obtain ⟨y, hy, rfl⟩ := List.mem_map.1 hx
  obtain ⟨j, hj, rfl⟩ := List.getElem_of_mem hy
  rw [h j hj]; decide
theorem any_yes {L : List (Itm × IRest)} {p : Itm → Bool} {j : Nat} (hj : j < L.length) (h : p (L[j]'hj).1 = true) : (L.map (·.1)).any p = true := by
  rw [List.any_eq_true]
  exact ⟨_, List.mem_map.2 ⟨_, List.getElem_mem hj, rfl⟩, h⟩
theorem load_blk_g {P : Program} {ops : Array Oper} {rest : List Oper} {o : Oper} {a : Act} {w : World} {Q : Exit → Act → World → Prop} (hgd : Region.wanted o (yielded ops a.tmps) = true) (ty : TypeId) (x : Operand) (ho : o.op = .load ty x)
    {g : Nat} {t : TypeId} {cs : Array Value} (hg : Blk w g t cs) (hx : a.eval x = .pointer (some ⟨g, 0, none⟩)) (d : TypeDesc)
    (hu : P.underlying ty = some d) (hd : (match d with | .struct _ | .array _ _ => true | _ => false) = true) (hi : (P.info? ty).map (·.size) = some cs.size)
    (h : wpList P ops Q rest (a.put o.dst (.agg cs)) w) : wpList P ops Q (o :: rest) a w :=
  wpList_step fun K hK => by simp only [hgd, if_true]; exact wp_load_row ty x ho g hx t cs (0, 0) d hg hu hd hi (hK _ _ h)
attribute [local irreducible] ctxC textB itemB checkF anyK soundB holdsP evalP
set_option maxRecDepth 100000 in
set_option maxHeartbeats 8000000 in
theorem vevalF (c : Ctx) (r : CRest) (A : Option Addr) (n cp : Nat) (L : List (Itm × IRest)) (hn : n = L.length) (hlen : n ≤ 1000000) (fd op nu : Int) (tx : ByteArray) (ot : Int) (hx : tx.size ≤ maxLen) (w : World) (hL : ItemsAt w w.heap.size A L) :
    Calls Tryz.prog 258 #[testV fd op nu tx ot, ctxV c r (.slice A n cp)] w fun e w' => e = .returned (.bool (evalP c (L.map (·.1)) fd op nu tx ot)) ∧ Below w.heap.size w w' := by
  obtain ⟨hT, hC, hB, hS⟩ := boxTC w fd op nu tx ot c r (.slice A n cp)
  have HK := Lib.hid (fun l W => vcheckF fd op nu tx ot l hx W)
  have HLN := Lib.hid hn
  have HE1 := Lib.hid (show soundB fd op nu tx ot = false → evalP c (L.map (·.1)) fd op nu tx ot = false from fun h => by unfold evalP; rw [if_pos h])
  have HE2 := Lib.hid (show soundB fd op nu tx ot = true → (itemB fd = false ∧ itemB ot = false) → evalP c (L.map (·.1)) fd op nu tx ot = holdsP c fd op nu tx ot Itm.none from fun h k => by unfold evalP; rw [if_neg (by rw [h]; decide), if_pos k])
  have HE3 := Lib.hid (show soundB fd op nu tx ot = true → ¬ (itemB fd = false ∧ itemB ot = false) → evalP c (L.map (·.1)) fd op nu tx ot = (L.map (·.1)).any fun i => liveB i && holdsP c fd op nu tx ot i from fun h k => by unfold evalP; rw [if_neg (by rw [h]; decide), if_neg k])
  have HT := Lib.hid hT
  have HC := Lib.hid hC
  have HB := Lib.hid hB
  have HLI := Lib.hid hL
  have HS := Lib.hid hS
  clear hT hC hB hL hn hS
  go_enter Tryz.func258, Tryz.ntmps258
  go_wp2_with fail
  generalize (w.alloc (.cells (testC fd op nu tx ot) 85)).alloc (.cells (ctxC c r (.slice A n cp)) 54) = W at *
  go_loopw [5, 6] (fun b i wr => ∃ k : Nat, k ≤ 5 ∧ i = .int .i64 ((k : Int) + 1) ∧ b = .bool (anyK fd op nu tx ot k) ∧ Below W.heap.size W wr) (fun _ i _ => 7 - (intOf i).toNat)
  case atStart => exact ⟨0, by omega, rfl, by unfold anyK; rfl, Below.refl _ _⟩
  case round =>
    obtain ⟨k, hk, rfl, rfl, hb⟩ := hrel
    by_cases hlt : k < 5
    · have HA := Lib.hid (anyK_succ fd op nu tx ot k)
      have HBR := Lib.hid hb
      obtain ⟨q0, q1, q2, q3, q4⟩ := test_cells (HT.out.below hb)
      clear hb
      cases hkn : anyK fd op nu tx ot k
      · rw [hkn] at HA
        clear hkn
        go_wp2_with fail
        refine (HK.out _ _).mono ?_
        rintro e w1 ⟨rfl, hb1⟩
        have HB1 := Lib.hid (below_then HBR.out hb1)
        clear hb1 q0 q1 q2 q3 q4
        go_wp2_with fail
        go_roundw
        case rel => exact ⟨k + 1, by omega, by go_num, by rw [HA.out]; simp, HB1.out⟩
        case measure => simp [intOf]; omega
      · rw [hkn] at HA
        clear hkn
        go_wp2_with fail
        go_roundw
        case rel => exact ⟨k + 1, by omega, by go_num, by rw [HA.out]; simp, HBR.out⟩
        case measure => simp [intOf]; omega
    · have hk5 : k = 5 := by omega
      subst hk5
      rw [anyK_five]
      have hT1 : TestB wr w.heap.size fd op nu tx ot := HT.out.below hb
      have hC1 : CtxB wr (w.heap.size + 1) c r (.slice A n cp) := HC.out.below hb
      have HLI1 := Lib.hid (ItemsAt.keep (HLI.out.keep HB.out (Nat.le_refl _)) hb (by have := HB.out.size; omega))
      have hbw := HB.out.trans (hb.mono HB.out.size)
      have HBW := Lib.hid hbw
      have HT1 := Lib.hid hT1
      have HC1 := Lib.hid hC1
      clear hb hbw HT HC HLI HK hk hlt
      cases hs : soundB fd op nu tx ot
      · have HF := Lib.hid (HE1.out hs)
        clear hs hT1 hC1
        go_wp2_with fail
        go_ret
        exact ⟨ret_b HF.out.symm, HBW.out⟩
      · obtain ⟨rf, ro, rt⟩ := sound_ranges hs
        have HV := Lib.hid (fun i ir W => vholdsF c r (.slice A n cp) fd op nu tx ot i ir rf ro rt W)
        have HI1 := Lib.hid (fun W => vitemF fd W)
        have HI2 := Lib.hid (fun W => vitemF ot W)
        have HSO := Lib.hid hs
        have q0 := hT1.c0
        have q4 := hT1.c4
        have qi := hC1.items
        clear rf ro rt hs hT1 hC1
        go_wp2_with fail
        refine (HI1.out _).mono ?_
        rintro e w1 ⟨rfl, rfl⟩
        cases hf : itemB fd
        · cases ht : itemB ot
          · have HF := Lib.hid (HE2.out HSO.out ⟨hf, ht⟩)
            rw [ht] at HI2
            clear hf ht
            go_wp2_with fail
            refine (HI2.out _).mono ?_
            rintro e w1 ⟨rfl, rfl⟩
            obtain ⟨k0, k1, k2, k3, k4⟩ := test_cells HT1.out
            go_wp2_with (((with_reducible refine load_blk ?_ 54 (.tmp 3) ?_ HC1.out ?_ _ Tryz.underlying54 ?_ ?_ ?_); (iterate 4 rfl); exact ctx_sz _ _ _))
            refine (HV.out Itm.none irZ _).mono ?_
            rintro e w2 ⟨rfl, hb2⟩
            have HB2 := Lib.hid (HBW.out.trans (hb2.mono HBW.out.size))
            go_wp2_with fail
            go_ret
            exact ⟨ret_b HF.out.symm, HB2.out⟩
          · have HF := Lib.hid (HE3.out HSO.out (fun h => by rw [ht] at h; cases h.2))
            rw [ht] at HI2
            clear hf ht
            go_wp2_with fail
            refine (HI2.out _).mono ?_
            rintro e w1 ⟨rfl, rfl⟩
            go_wp2_with fail
            go_loopw [39] (fun i wr' => ∃ k : Nat, k ≤ L.length ∧ i = .int .i64 (k : Int) ∧ Hid (∀ j (hj : j < L.length), j < k → (liveB (L[j]'hj).1 && holdsP c fd op nu tx ot (L[j]'hj).1) = false) ∧ Below wr.heap.size wr wr') (fun i _ => L.length - (intOf i).toNat)
            case atStart => exact ⟨0, Nat.zero_le _, rfl, fun j _ hj => by omega, Below.refl _ _⟩
            case round =>
              obtain ⟨k, hk, rfl, hno, hb⟩ := hrel
              have HBR := Lib.hid (HBW.out.trans (hb.mono HBW.out.size))
              have hln : n = L.length := HLN.out
              subst hln
              by_cases hlt : k < L.length
              · obtain ⟨ad, e, hadb, hcl⟩ := (HLI1.out.keep hb HBW.out.size) k hlt
                cases e
                obtain ⟨i0, i1, i2, i3, i4, i5, i6, i7, i8, i9, i10, i11, i12⟩ := item_cells hcl
                have HTR := Lib.hid (show TestB wr w.heap.size fd op nu tx ot from HT1.out.below hb)
                have HCR := Lib.hid (show CtxB wr (w.heap.size + 1) c r _ from HC1.out.below hb)
                have HOLD := Lib.hid hb
                clear hcl hb q0 q4 qi
                generalize hy : L[k]'hlt = y at *
                have HY := Lib.hid hy
                clear hy
                obtain ⟨⟨dev, ino, uid, gid, kind⟩, ⟨gv, pa, dd, di, nm, ro, mo, pe⟩⟩ := y
                simp only at i0 i1 i2 i3 i4 i5 i6 i7 i8 i9 i10 i11 i12
                by_cases hd : dev = 0
                · subst hd
                  by_cases hi : ino = 0
                  · subst hi
                    have HAL := Lib.hid (HBR.out.trans (((Below.refl wr.heap.size wr).alloc (Nat.le_refl _) (.cells (itemC ⟨0, 0, uid, gid, kind⟩ ⟨gv, pa, dd, di, nm, ro, mo, pe⟩) 73)).mono HBR.out.size))
                    have HB6 := Lib.hid (HOLD.out.trans (((Below.refl wr.heap.size wr).alloc (Nat.le_refl _) (.cells (itemC ⟨0, 0, uid, gid, kind⟩ ⟨gv, pa, dd, di, nm, ro, mo, pe⟩) 73)).mono HOLD.out.size))
                    have HN := Lib.hid (show ∀ j (hj : j < L.length), j < k + 1 → (liveB (L[j]'hj).1 && holdsP c fd op nu tx ot (L[j]'hj).1) = false from fun j hj hjk => by
                      by_cases e : j = k
                      · subst e; rw [HY.out]; rfl
                      · exact hno.out j hj (by omega))
                    unfold itemC at *
                    go_wp2_with fail
                    go_roundw
                    case rel => exact ⟨k + 1, by omega, by go_num, HN, HB6.out⟩
                    case measure => simp [intOf]; omega
                  · have hib : (ino == 0) = false := by simpa using hi
                    have hal : Below wr.heap.size wr (wr.alloc (.cells (itemC ⟨0, ino, uid, gid, kind⟩ ⟨gv, pa, dd, di, nm, ro, mo, pe⟩) 73)) := (Below.refl _ _).alloc (Nat.le_refl _) _
                    obtain ⟨t0, t1, t2, t3, t4⟩ := test_cells (HTR.out.below hal)
                    have HC2 := Lib.hid (show CtxB _ (w.heap.size + 1) c r _ from HCR.out.below hal)
                    have HAL := Lib.hid (HBR.out.trans (hal.mono HBR.out.size))
                    have HV1 := Lib.hid (HV.out ⟨0, ino, uid, gid, kind⟩ ⟨gv, pa, dd, di, nm, ro, mo, pe⟩ (wr.alloc (.cells (itemC ⟨0, ino, uid, gid, kind⟩ ⟨gv, pa, dd, di, nm, ro, mo, pe⟩) 73)))
                    clear hal
                    unfold itemC at *
                    go_wp2_with (((with_reducible refine load_blk_g ?_ 54 (.tmp 3) ?_ HC2.out ?_ _ Tryz.underlying54 ?_ ?_ ?_); (iterate 4 rfl); exact ctx_sz _ _ _))
                    refine HV1.out.mono ?_
                    rintro e w5 ⟨rfl, hb5⟩
                    have HB5 := Lib.hid (HAL.out.trans (hb5.mono HAL.out.size))
                    have HB6 := Lib.hid (show Below _ _ w5 from HOLD.out.trans (((Below.refl _ _).alloc (Nat.le_refl _) _).mono HOLD.out.size |>.trans (hb5.mono (by have := HOLD.out.size; simp at this ⊢; omega))))
                    clear hb5 t0 t1 t2 t3 t4
                    cases hh : holdsP c fd op nu tx ot ⟨0, ino, uid, gid, kind⟩
                    · have HN := Lib.hid (show ∀ j (hj : j < L.length), j < k + 1 → (liveB (L[j]'hj).1 && holdsP c fd op nu tx ot (L[j]'hj).1) = false from fun j hj hjk => by
                        by_cases e : j = k
                        · subst e; rw [HY.out, hh]; simp
                        · exact hno.out j hj (by omega))
                      clear hh
                      go_wp2_with fail
                      go_roundw
                      case rel => exact ⟨k + 1, by omega, by go_num, HN, HB6.out⟩
                      case measure => simp [intOf]; omega
                    · have HYES := Lib.hid (HF.out.trans (any_yes hlt (by rw [HY.out, hh]; unfold liveB; simp [hi])))
                      clear hh
                      go_wp2_with fail
                      go_ret
                      exact ⟨ret_b HYES.out.symm, HB5.out⟩
                · have hdb : (dev == 0) = false := by simpa using hd
                  have hal : Below wr.heap.size wr (wr.alloc (.cells (itemC ⟨dev, ino, uid, gid, kind⟩ ⟨gv, pa, dd, di, nm, ro, mo, pe⟩) 73)) := (Below.refl _ _).alloc (Nat.le_refl _) _
                  obtain ⟨t0, t1, t2, t3, t4⟩ := test_cells (HTR.out.below hal)
                  have HC2 := Lib.hid (show CtxB _ (w.heap.size + 1) c r _ from HCR.out.below hal)
                  have HAL := Lib.hid (HBR.out.trans (hal.mono HBR.out.size))
                  have HV1 := Lib.hid (HV.out ⟨dev, ino, uid, gid, kind⟩ ⟨gv, pa, dd, di, nm, ro, mo, pe⟩ (wr.alloc (.cells (itemC ⟨dev, ino, uid, gid, kind⟩ ⟨gv, pa, dd, di, nm, ro, mo, pe⟩) 73)))
                  clear hal
                  unfold itemC at *
                  go_wp2_with (((with_reducible refine load_blk_g ?_ 54 (.tmp 3) ?_ HC2.out ?_ _ Tryz.underlying54 ?_ ?_ ?_); (iterate 4 rfl); exact ctx_sz _ _ _))
                  refine HV1.out.mono ?_
                  rintro e w5 ⟨rfl, hb5⟩
                  have HB5 := Lib.hid (HAL.out.trans (hb5.mono HAL.out.size))
                  have HB6 := Lib.hid (show Below _ _ w5 from HOLD.out.trans (((Below.refl _ _).alloc (Nat.le_refl _) _).mono HOLD.out.size |>.trans (hb5.mono (by have := HOLD.out.size; simp at this ⊢; omega))))
                  clear hb5 t0 t1 t2 t3 t4
                  cases hh : holdsP c fd op nu tx ot ⟨dev, ino, uid, gid, kind⟩
                  · have HN := Lib.hid (show ∀ j (hj : j < L.length), j < k + 1 → (liveB (L[j]'hj).1 && holdsP c fd op nu tx ot (L[j]'hj).1) = false from fun j hj hjk => by
                      by_cases e : j = k
                      · subst e; rw [HY.out, hh]; simp
                      · exact hno.out j hj (by omega))
                    clear hh
                    go_wp2_with fail
                    go_roundw
                    case rel => exact ⟨k + 1, by omega, by go_num, HN, HB6.out⟩
                    case measure => simp [intOf]; omega
                  · have HYES := Lib.hid (HF.out.trans (any_yes hlt (by rw [HY.out, hh]; unfold liveB; simp [hd])))
                    clear hh
                    go_wp2_with fail
                    go_ret
                    exact ⟨ret_b HYES.out.symm, HB5.out⟩
              · have HNO := Lib.hid (HF.out.trans (any_no fun j hj => hno.out j hj (by omega)))
                clear hb q0 q4 qi
                go_wp2_with fail
                go_ret
                exact ⟨ret_b HNO.out.symm, HBR.out⟩
        · have HF := Lib.hid (HE3.out HSO.out (fun h => by rw [hf] at h; cases h.1))
          clear hf
          go_wp2_with fail
          go_loopw [39] (fun i wr' => ∃ k : Nat, k ≤ L.length ∧ i = .int .i64 (k : Int) ∧ Hid (∀ j (hj : j < L.length), j < k → (liveB (L[j]'hj).1 && holdsP c fd op nu tx ot (L[j]'hj).1) = false) ∧ Below wr.heap.size wr wr') (fun i _ => L.length - (intOf i).toNat)
          case atStart => exact ⟨0, Nat.zero_le _, rfl, fun j _ hj => by omega, Below.refl _ _⟩
          case round =>
            obtain ⟨k, hk, rfl, hno, hb⟩ := hrel
            have HBR := Lib.hid (HBW.out.trans (hb.mono HBW.out.size))
            have hln : n = L.length := HLN.out
            subst hln
            by_cases hlt : k < L.length
            · obtain ⟨ad, e, hadb, hcl⟩ := (HLI1.out.keep hb HBW.out.size) k hlt
              cases e
              obtain ⟨i0, i1, i2, i3, i4, i5, i6, i7, i8, i9, i10, i11, i12⟩ := item_cells hcl
              have HTR := Lib.hid (show TestB wr w.heap.size fd op nu tx ot from HT1.out.below hb)
              have HCR := Lib.hid (show CtxB wr (w.heap.size + 1) c r _ from HC1.out.below hb)
              have HOLD := Lib.hid hb
              clear hcl hb q0 q4 qi
              generalize hy : L[k]'hlt = y at *
              have HY := Lib.hid hy
              clear hy
              obtain ⟨⟨dev, ino, uid, gid, kind⟩, ⟨gv, pa, dd, di, nm, ro, mo, pe⟩⟩ := y
              simp only at i0 i1 i2 i3 i4 i5 i6 i7 i8 i9 i10 i11 i12
              by_cases hd : dev = 0
              · subst hd
                by_cases hi : ino = 0
                · subst hi
                  have HAL := Lib.hid (HBR.out.trans (((Below.refl wr.heap.size wr).alloc (Nat.le_refl _) (.cells (itemC ⟨0, 0, uid, gid, kind⟩ ⟨gv, pa, dd, di, nm, ro, mo, pe⟩) 73)).mono HBR.out.size))
                  have HB6 := Lib.hid (HOLD.out.trans (((Below.refl wr.heap.size wr).alloc (Nat.le_refl _) (.cells (itemC ⟨0, 0, uid, gid, kind⟩ ⟨gv, pa, dd, di, nm, ro, mo, pe⟩) 73)).mono HOLD.out.size))
                  have HN := Lib.hid (show ∀ j (hj : j < L.length), j < k + 1 → (liveB (L[j]'hj).1 && holdsP c fd op nu tx ot (L[j]'hj).1) = false from fun j hj hjk => by
                    by_cases e : j = k
                    · subst e; rw [HY.out]; rfl
                    · exact hno.out j hj (by omega))
                  unfold itemC at *
                  go_wp2_with fail
                  go_roundw
                  case rel => exact ⟨k + 1, by omega, by go_num, HN, HB6.out⟩
                  case measure => simp [intOf]; omega
                · have hib : (ino == 0) = false := by simpa using hi
                  have hal : Below wr.heap.size wr (wr.alloc (.cells (itemC ⟨0, ino, uid, gid, kind⟩ ⟨gv, pa, dd, di, nm, ro, mo, pe⟩) 73)) := (Below.refl _ _).alloc (Nat.le_refl _) _
                  obtain ⟨t0, t1, t2, t3, t4⟩ := test_cells (HTR.out.below hal)
                  have HC2 := Lib.hid (show CtxB _ (w.heap.size + 1) c r _ from HCR.out.below hal)
                  have HAL := Lib.hid (HBR.out.trans (hal.mono HBR.out.size))
                  have HV1 := Lib.hid (HV.out ⟨0, ino, uid, gid, kind⟩ ⟨gv, pa, dd, di, nm, ro, mo, pe⟩ (wr.alloc (.cells (itemC ⟨0, ino, uid, gid, kind⟩ ⟨gv, pa, dd, di, nm, ro, mo, pe⟩) 73)))
                  clear hal
                  unfold itemC at *
                  go_wp2_with (((with_reducible refine load_blk_g ?_ 54 (.tmp 3) ?_ HC2.out ?_ _ Tryz.underlying54 ?_ ?_ ?_); (iterate 4 rfl); exact ctx_sz _ _ _))
                  refine HV1.out.mono ?_
                  rintro e w5 ⟨rfl, hb5⟩
                  have HB5 := Lib.hid (HAL.out.trans (hb5.mono HAL.out.size))
                  have HB6 := Lib.hid (show Below _ _ w5 from HOLD.out.trans (((Below.refl _ _).alloc (Nat.le_refl _) _).mono HOLD.out.size |>.trans (hb5.mono (by have := HOLD.out.size; simp at this ⊢; omega))))
                  clear hb5 t0 t1 t2 t3 t4
                  cases hh : holdsP c fd op nu tx ot ⟨0, ino, uid, gid, kind⟩
                  · have HN := Lib.hid (show ∀ j (hj : j < L.length), j < k + 1 → (liveB (L[j]'hj).1 && holdsP c fd op nu tx ot (L[j]'hj).1) = false from fun j hj hjk => by
                      by_cases e : j = k
                      · subst e; rw [HY.out, hh]; simp
                      · exact hno.out j hj (by omega))
                    clear hh
                    go_wp2_with fail
                    go_roundw
                    case rel => exact ⟨k + 1, by omega, by go_num, HN, HB6.out⟩
                    case measure => simp [intOf]; omega
                  · have HYES := Lib.hid (HF.out.trans (any_yes hlt (by rw [HY.out, hh]; unfold liveB; simp [hi])))
                    clear hh
                    go_wp2_with fail
                    go_ret
                    exact ⟨ret_b HYES.out.symm, HB5.out⟩
              · have hdb : (dev == 0) = false := by simpa using hd
                have hal : Below wr.heap.size wr (wr.alloc (.cells (itemC ⟨dev, ino, uid, gid, kind⟩ ⟨gv, pa, dd, di, nm, ro, mo, pe⟩) 73)) := (Below.refl _ _).alloc (Nat.le_refl _) _
                obtain ⟨t0, t1, t2, t3, t4⟩ := test_cells (HTR.out.below hal)
                have HC2 := Lib.hid (show CtxB _ (w.heap.size + 1) c r _ from HCR.out.below hal)
                have HAL := Lib.hid (HBR.out.trans (hal.mono HBR.out.size))
                have HV1 := Lib.hid (HV.out ⟨dev, ino, uid, gid, kind⟩ ⟨gv, pa, dd, di, nm, ro, mo, pe⟩ (wr.alloc (.cells (itemC ⟨dev, ino, uid, gid, kind⟩ ⟨gv, pa, dd, di, nm, ro, mo, pe⟩) 73)))
                clear hal
                unfold itemC at *
                go_wp2_with (((with_reducible refine load_blk_g ?_ 54 (.tmp 3) ?_ HC2.out ?_ _ Tryz.underlying54 ?_ ?_ ?_); (iterate 4 rfl); exact ctx_sz _ _ _))
                refine HV1.out.mono ?_
                rintro e w5 ⟨rfl, hb5⟩
                have HB5 := Lib.hid (HAL.out.trans (hb5.mono HAL.out.size))
                have HB6 := Lib.hid (show Below _ _ w5 from HOLD.out.trans (((Below.refl _ _).alloc (Nat.le_refl _) _).mono HOLD.out.size |>.trans (hb5.mono (by have := HOLD.out.size; simp at this ⊢; omega))))
                clear hb5 t0 t1 t2 t3 t4
                cases hh : holdsP c fd op nu tx ot ⟨dev, ino, uid, gid, kind⟩
                · have HN := Lib.hid (show ∀ j (hj : j < L.length), j < k + 1 → (liveB (L[j]'hj).1 && holdsP c fd op nu tx ot (L[j]'hj).1) = false from fun j hj hjk => by
                    by_cases e : j = k
                    · subst e; rw [HY.out, hh]; simp
                    · exact hno.out j hj (by omega))
                  clear hh
                  go_wp2_with fail
                  go_roundw
                  case rel => exact ⟨k + 1, by omega, by go_num, HN, HB6.out⟩
                  case measure => simp [intOf]; omega
                · have HYES := Lib.hid (HF.out.trans (any_yes hlt (by rw [HY.out, hh]; unfold liveB; simp [hd])))
                  clear hh
                  go_wp2_with fail
                  go_ret
                  exact ⟨ret_b HYES.out.symm, HB5.out⟩
            · have HNO := Lib.hid (HF.out.trans (any_no fun j hj => hno.out j hj (by omega)))
              clear hb q0 q4 qi
              go_wp2_with fail
              go_ret
              exact ⟨ret_b HNO.out.symm, HBR.out⟩
end Go.Proofs.YtollifnnpihfdaaGreatDoor

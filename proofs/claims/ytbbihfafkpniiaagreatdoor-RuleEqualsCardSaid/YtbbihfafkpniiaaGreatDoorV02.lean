/- Texts of one proof, laid together. -/
import Derived.Test.YtbbihfafkpniiaaGreatDoorC15
import Derived.Test.YtbbihfafkpniiaaGreatDoorC19
import Derived.Test.YtbbihfafkpniiaaGreatDoorC13
import Derived.Lib.SmallJoins
import Derived.Test.YtbbihfafkpniiaaGreatDoorC16
import Derived.Test.YtbbihfafkpniiaaGreatDoorC07
/- Parse of the reference of layer 1 returns readM. -/
namespace Go.Proofs.YtbbihfafkpniiaaGreatDoor
open Go.RowKit
theorem any_take_snoc (f : ByteArray → Bool) (L : List ByteArray) (k : Nat) (h : k < L.length) : (L.take (k + 1)).any f = ((L.take k).any f || f L[k]) := by
  rw [List.take_succ_eq_append_getElem h, List.any_append]; simp
theorem flat_snoc (L : List ByteArray) (k : Nat) (h : k < L.length) : (L.take (k + 1)).flatMap nums = (L.take k).flatMap nums ++ nums L[k] := by
  rw [List.take_succ_eq_append_getElem h, List.flatMap_append]; simp
theorem any_true (f : ByteArray → Bool) (L : List ByteArray) (k : Nat) (h : k < L.length) (hf : f L[k] = true) : L.any f = true := List.any_eq_true.2 ⟨_, List.getElem_mem h, hf⟩
theorem span_two {x y z : ByteArray} (h : IsW 45 x [y, z]) : spanS x = match num4 y, num4 z with
      | some a, some b => if a ≤ b then some (a, b) else none
      | _, _ => none := by unfold spanS; rw [pieces_of h]; rfl
theorem span_one {x y : ByteArray} (h : IsW 45 x [y]) : spanS x = (num4 y).map (fun n => (n, n)) := by unfold spanS; rw [pieces_of h]; rfl
theorem span_more {x y z u : ByteArray} {M : List ByteArray} (h : IsW 45 x (y :: z :: u :: M)) : spanS x = none := by unfold spanS; rw [pieces_of h]; rfl
theorem bad_span {x : ByteArray} (h : spanS x = none) : badB x = true := by unfold badB; rw [h]; rfl
theorem good_span {x : ByteArray} {p : Nat × Nat} (h : spanS x = some p) : badB x = false := by unfold badB; rw [h]; rfl
theorem great_span {x : ByteArray} {a b : Nat} (h : spanS x = some (a, b)) : greatB x = decide (32 ≤ b) := by unfold greatB; rw [h]
theorem nums_span {x : ByteArray} {a b : Nat} (h : spanS x = some (a, b)) : nums x = List.range' a (min (b + 1) 32 - a) := by unfold nums; rw [h]
def IntsOwn (w : World) (base : Nat) (v : Value) (L : List Nat) : Prop := w.ownsRow base 3 1 v L.length (L.map natV)
theorem IntsOwn.out {w : World} {base : Nat} {v : Value} {L : List Nat} (h : IntsOwn w base v L) : w.ownsRow base 3 1 v L.length (L.map natV) := h
theorem IntsOwn.below {w w' : World} {base : Nat} {v : Value} {L : List Nat} (h : IntsOwn w base v L) (hb : Below w.heap.size w w') : IntsOwn w' base v L := by
  refine World.ownsRow.kept h (row := none) ⟨hb.os, hb.tape, hb.output, hb.size, fun k hk _ => hb.block k hk⟩ ?_
  cases v.ownBlock with
  | none => exact .inl rfl
  | some _ => exact .inr (by simp)
theorem span_range {x : ByteArray} {a b : Nat} (h : spanS x = some (a, b)) : a ≤ b ∧ b ≤ 9999 := spanL_le h
def RdPostM (s : ByteArray) (w : World) (e : Ending) (w' : World) : Prop := e = .returned (.tuple #[.int .u64 ((readL (piecesOf 44 s)).1 : Int), .int .i64 (readL (piecesOf 44 s)).2]) ∧ Below w.heap.size w w'
theorem readR_bad {s : ByteArray} {L : List ByteArray} (hw : IsW 44 s L) (h : L.any badB = true) : readL (piecesOf 44 s) = (0, 11) := by rw [pieces_of hw]; exact if_pos h
theorem readR_great {s : ByteArray} {L : List ByteArray} (hw : IsW 44 s L) (h : L.any badB = false) (k : L.any greatB = true) : readL (piecesOf 44 s) = (0, 10) := by rw [pieces_of hw]; unfold readL; rw [h, k]; rfl
theorem readR_ok {s : ByteArray} {L : List ByteArray} (hw : IsW 44 s L) (h : L.any badB = false) (k : L.any greatB = false) : readL (piecesOf 44 s) = (orN ((L.flatMap nums).map Int.ofNat), 0) := by
  rw [pieces_of hw]; unfold readL; rw [h, k, orN_nat]
  have : accM L = orL (L.flatMap nums) 0 := acc_nums L 0 k
  rw [← this]; rfl
theorem of_nat (l : List Nat) (h : ∀ n ∈ l, n < 32) : ofM (l.map Int.ofNat) = ((orN (l.map Int.ofNat) : Nat) : Int) ∧ ofE (l.map Int.ofNat) = 0 := by
  unfold ofM ofE; rw [out_nat l h]; exact ⟨rfl, rfl⟩
theorem rof_n (w : World) (B : Nat) (A : Option Addr) (zs : List Int) (n c : Nat) (hn : n = zs.length) (hz : IntsAt w B A zs) (hl : n ≤ maxLen) :
    Calls Tryz.prog 119 #[.slice A n c] w fun e w' => e = .returned (.tuple #[.int .u64 (ofM zs), .int .i64 (ofE zs)]) ∧ w = w' := by
  subst hn; exact rof w B A zs c hz hl
attribute [local irreducible] num4 badB greatB readL piecesOf spanS nums accM
set_option maxRecDepth 100000 in
set_option maxHeartbeats 8000000 in
theorem rmparse_list (s : ByteArray) (w : World) (hs : s.size ≤ 1000) (n1 : (s.toList == [97, 108, 108]) = false) (n2 : (s.toList == [110, 111, 110, 101]) = false) :
    Calls Tryz.prog 95 #[.string s] w (RdPostM s w) := by
  obtain ⟨i0, hif, hz0, hz1, hz2⟩ := info_parts Tryz.info3
  go_enter Tryz.func95, Tryz.ntmps95
  go_wp2_with fail
  refine (rcut s 44 44 rfl _ (by omega)).mono ?_
  rintro e w1 ⟨v1, L, rfl, hw, ho, hb1⟩
  obtain ⟨Aw, cw, e1, hS⟩ := ho.strs
  subst e1
  have HW := Lib.hid hw
  have hsz := hw.size
  have hlL : L.length ≤ 1001 := by omega
  have HSZ := Lib.hid (show ∀ k (h : k < L.length), L[k].size ≤ 100000 from fun k h => by have := hsz.2 _ (List.getElem_mem h); omega)
  have HS := Lib.hid hS
  clear hw hsz hS ho n1 n2
  obtain ⟨n, hn⟩ : ∃ n, n = L.length := ⟨_, rfl⟩
  have HN := Lib.hid hn
  have hnl : n ≤ L.length := by omega
  have hln : L.length ≤ n := by omega
  rw [← hn]
  clear hn
  go_wp2_with fail
  go_loopw [5, 6, 7] (fun v gr i wr => ∃ (k : Nat) (l : List Nat), k ≤ L.length ∧ i = .int .i64 (k : Int) ∧ gr = .bool ((L.take k).any greatB) ∧ IntsOwn wr w1.heap.size v l ∧ l.length ≤ 32 * k ∧ Hid (l = (L.take k).flatMap nums) ∧ Hid ((L.take k).any badB = false) ∧ Below w1.heap.size w1 wr) (fun _ _ i _ => L.length - (intOf i).toNat)
  case atStart => exact ⟨0, [], Nat.zero_le _, rfl, rfl, World.ownsRow_nil _ _ _ _, by simp, rfl, rfl, Below.refl _ _⟩
  case round =>
    obtain ⟨k, l, hk, rfl, rfl, hown, hll, hfl, hok, hb⟩ := hrel
    generalize hG : (L.take k).any greatB = G at *
    have HG := Lib.hid hG
    clear hG
    by_cases hlt : k < L.length
    · have hkn : (k : Int) < (n : Int) := by omega
      have hk0 : (0 : Int) ≤ (k : Int) := by omega
      obtain ⟨ad, e, _, hc⟩ := HS.out.keep hb (Nat.le_refl _) k hlt
      subst e
      obtain ⟨x, hx⟩ : ∃ x, x = L[k] := ⟨_, rfl⟩
      have HX := Lib.hid hx
      rw [← hx] at hc
      have hxs : x.size ≤ 100000 := by rw [hx]; exact HSZ.out k hlt
      clear hx
      go_wp2_with fail
      refine (rcut x 45 45 rfl _ hxs).mono ?_
      rintro e w2 ⟨v2, L2, rfl, hw2, ho2, hb2⟩
      have hown2 := hown.below hb2
      have hb12 : Below w1.heap.size w1 w2 := hb.trans (hb2.mono hb.size)
      obtain ⟨A2, c2, e2, hS2⟩ := ho2.strs
      subst e2
      clear hown ho2 hb2 hc
      cases L2 with
      | nil => exact absurd rfl hw2.ne
      | cons y M =>
        obtain ⟨ad2, e, _, hy⟩ := hS2 0 (by simp)
        subst e
        simp only [List.getElem_cons_zero, Addr.add, if_true] at hy
        have hys : y.size ≤ 100000 := by have := hw2.size.2 y List.mem_cons_self; omega
        cases M with
        | nil =>
          have HP := Lib.hid (span_one hw2)
          have hlen : ([y] : List ByteArray).length = 1 := rfl
          rw [hlen]
          clear hw2 hS2 hlen
          go_wp2_with fail
          refine (rsmall y _ hys).mono ?_
          rintro e w' ⟨rfl, rfl⟩
          cases hq : num4 y with
          | none =>
            have HB := Lib.hid (any_true badB L k hlt (by rw [← HX.out, bad_span (by rw [HP.out, hq]; rfl)]))
            rw [show smallV (none : Option Nat) = -1 from rfl]
            clear hq
            go_wp2_with fail
            go_ret2
            exact ⟨by rw [readR_bad HW.out HB.out]; rfl, below_then hb1 hb12⟩
          | some lo =>
            have HSP := Lib.hid (show spanS x = some (lo, lo) by rw [HP.out, hq]; rfl)
            rw [show smallV (some lo) = (lo : Int) from rfl]
            obtain ⟨hle, h9⟩ := span_range HSP.out
            clear hq HP
            have HBX := Lib.hid (show (L.take (k + 1)).any badB = false by rw [any_take_snoc _ _ _ hlt, hok.out, ← HX.out, good_span HSP.out]; rfl)
            have HFX := Lib.hid (show (L.take (k + 1)).flatMap nums = l ++ List.range' lo (min (lo + 1) 32 - lo) by rw [flat_snoc _ _ hlt, ← hfl.out, ← HX.out, nums_span HSP.out])
            have HGX := Lib.hid (show (L.take (k + 1)).any greatB = (G || decide (32 ≤ lo)) by rw [any_take_snoc _ _ _ hlt, HG.out, ← HX.out, great_span HSP.out])
            obtain ⟨top, htop⟩ : ∃ t, t = min (lo + 1) 32 - lo := ⟨_, rfl⟩
            have HT := Lib.hid htop
            have htop1 : lo + top ≤ lo + 1 := by omega
            have htop2 : top = 0 ∨ lo + top ≤ 32 := by omega
            have htop3 : lo + top = lo + 1 ∨ 32 ≤ lo + top := by omega
            clear htop
            cases G
            all_goals
              go_wp2_with fail
              go_loopw [5, 11] (fun v j wr => ∃ (c : Nat) (R : List Nat), c ≤ top ∧ j = .int .i64 ((lo + c : Nat) : Int) ∧ IntsOwn wr w1.heap.size v R ∧ R.length ≤ 32 * k + c ∧ Hid (R = l ++ List.range' lo c) ∧ Below w1.heap.size w1 wr) (fun _ j _ => lo + top - (intOf j).toNat)
              case atStart => exact ⟨0, l, Nat.zero_le _, rfl, hown2, by omega, Lib.hid (by simp), hb12⟩
              case round =>
                obtain ⟨c, R, hc1, rfl, hownR, hRl, hR, hbR⟩ := hrel
                by_cases hct : c < top
                · have q1 : ((lo + c : Nat) : Int) ≤ (lo : Int) := by omega
                  have q2 : ((lo + c : Nat) : Int) < 32 := by omega
                  have q0 : (0 : Int) ≤ ((lo + c : Nat) : Int) := by omega
                  obtain ⟨nn, hnn⟩ : ∃ nn : Nat, nn = lo + c := ⟨_, rfl⟩
                  rw [← hnn] at q0 q1 q2 ⊢
                  have HNN := Lib.hid hnn
                  clear hnn
                  have ho := hownR.out
                  go_wp2_with (at_builtin; refine wpList_append_own _ rfl _ _ 29 rfl w1.heap.size 3 i0 _ 1 8 Tryz.underlying29 hif hz0 hz1 hz2 rfl (by omega) _ _ _ rfl (ho.alloc _) ⟨wr.heap.size, 0, none⟩ 1 1 [natV nn] rfl rfl (cell_one_new _ _ _) (by simp [Value.oneCell']) (by unfold maxLen; omega) (by omega) (by have := hbR.size; simp; omega) ?_; intro v3 w3 hown3 hg3 _)
                  have hb3 : Below w1.heap.size w1 w3 := below_grown_own (hbR.alloc hbR.size _) ho (Nat.le_refl _) hg3 (by have := hbR.size; simp; omega)
                  clear hg3
                  go_roundw
                  case rel => exact ⟨c + 1, R ++ [nn], by omega, by rw [HNN.out]; go_num, by unfold IntsOwn; simpa using hown3, by simp; omega, Lib.hid (by rw [hR.out, HNN.out, List.range'_concat]; simp), hb3⟩
                  case measure => simp [intOf]; have := HNN.out; omega
                · obtain rfl : c = top := by omega
                  have q3 : ¬ (((lo + c : Nat) : Int) ≤ (lo : Int)) ∨ (((lo + c : Nat) : Int) ≤ (lo : Int) ∧ ¬ (((lo + c : Nat) : Int) < 32)) := by omega
                  obtain ⟨nn, hnn⟩ : ∃ nn : Nat, nn = lo + c := ⟨_, rfl⟩
                  rw [← hnn] at q3 ⊢
                  have HNN := Lib.hid hnn
                  clear hnn
                  rcases q3 with q3 | ⟨q3, q4⟩
                  all_goals
                    go_wp2_with fail
                    go_roundw
                    case rel => exact ⟨k + 1, R, by omega, by go_num, (by rw [HGX.out]; simp only [Bool.false_or, Bool.true_or]; try (first | rfl | (congr 1; rw [Bool.eq_iff_iff]; simp; omega))), hownR, by omega, Lib.hid (by rw [HFX.out, hR.out, ← HT.out]), HBX, hbR⟩
                    case measure => simp [intOf]; omega
        | cons z M =>
          cases M with
          | nil =>
            have HP := Lib.hid (span_two hw2)
            obtain ⟨_, e, _, hz⟩ := hS2 1 (by simp)
            cases e
            simp [Addr.add] at hz
            have hzs : z.size ≤ 100000 := by have := hw2.size.2 z (by simp); omega
            have hlen : ([y, z] : List ByteArray).length = 2 := rfl
            rw [hlen]
            clear hw2 hS2 hlen
            go_wp2_with fail
            refine (rsmall y _ hys).mono ?_
            rintro e w' ⟨rfl, rfl⟩
            go_wp2_with fail
            refine (rsmall z _ hzs).mono ?_
            rintro e w' ⟨rfl, rfl⟩
            cases hq : num4 y with
            | none =>
              have HB := Lib.hid (any_true badB L k hlt (by rw [← HX.out, bad_span (by rw [HP.out, hq])]))
              rw [show smallV (none : Option Nat) = -1 from rfl]
              clear hq
              generalize smallV (num4 z) = sz
              go_wp2_with fail
              go_ret2
              exact ⟨by rw [readR_bad HW.out HB.out]; rfl, below_then hb1 hb12⟩
            | some lo =>
              rw [show smallV (some lo) = (lo : Int) from rfl]
              cases hq2 : num4 z with
              | none =>
                have HB := Lib.hid (any_true badB L k hlt (by rw [← HX.out, bad_span (by rw [HP.out, hq, hq2])]))
                rw [show smallV (none : Option Nat) = -1 from rfl]
                clear hq hq2
                go_wp2_with fail
                go_ret2
                exact ⟨by rw [readR_bad HW.out HB.out]; rfl, below_then hb1 hb12⟩
              | some hh =>
                rw [show smallV (some hh) = (hh : Int) from rfl]
                by_cases hlh : lo ≤ hh
                · have HSP := Lib.hid (show spanS x = some (lo, hh) by rw [HP.out, hq, hq2]; exact if_pos hlh)
                  obtain ⟨hle, h9⟩ := span_range HSP.out
                  clear hq hq2 HP
                  have q5 : decide (hh < lo) = false := decide_eq_false (by omega)
                  have HBX := Lib.hid (show (L.take (k + 1)).any badB = false by rw [any_take_snoc _ _ _ hlt, hok.out, ← HX.out, good_span HSP.out]; rfl)
                  have HFX := Lib.hid (show (L.take (k + 1)).flatMap nums = l ++ List.range' lo (min (hh + 1) 32 - lo) by rw [flat_snoc _ _ hlt, ← hfl.out, ← HX.out, nums_span HSP.out])
                  have HGX := Lib.hid (show (L.take (k + 1)).any greatB = (G || decide (32 ≤ hh)) by rw [any_take_snoc _ _ _ hlt, HG.out, ← HX.out, great_span HSP.out])
                  obtain ⟨top, htop⟩ : ∃ t, t = min (hh + 1) 32 - lo := ⟨_, rfl⟩
                  have HT := Lib.hid htop
                  have htop1 : lo + top ≤ hh + 1 := by omega
                  have htop2 : top = 0 ∨ lo + top ≤ 32 := by omega
                  have htop3 : lo + top = hh + 1 ∨ 32 ≤ lo + top := by omega
                  clear htop
                  cases G
                  all_goals
                    go_wp2_with fail
                    go_loopw [5, 11] (fun v j wr => ∃ (c : Nat) (R : List Nat), c ≤ top ∧ j = .int .i64 ((lo + c : Nat) : Int) ∧ IntsOwn wr w1.heap.size v R ∧ R.length ≤ 32 * k + c ∧ Hid (R = l ++ List.range' lo c) ∧ Below w1.heap.size w1 wr) (fun _ j _ => lo + top - (intOf j).toNat)
                    case atStart => exact ⟨0, l, Nat.zero_le _, rfl, hown2, by omega, Lib.hid (by simp), hb12⟩
                    case round =>
                      obtain ⟨c, R, hc1, rfl, hownR, hRl, hR, hbR⟩ := hrel
                      by_cases hct : c < top
                      · have q1 : ((lo + c : Nat) : Int) ≤ (hh : Int) := by omega
                        have q2 : ((lo + c : Nat) : Int) < 32 := by omega
                        have q0 : (0 : Int) ≤ ((lo + c : Nat) : Int) := by omega
                        obtain ⟨nn, hnn⟩ : ∃ nn : Nat, nn = lo + c := ⟨_, rfl⟩
                        rw [← hnn] at q0 q1 q2 ⊢
                        have HNN := Lib.hid hnn
                        clear hnn
                        have ho := hownR.out
                        go_wp2_with (at_builtin; refine wpList_append_own _ rfl _ _ 29 rfl w1.heap.size 3 i0 _ 1 8 Tryz.underlying29 hif hz0 hz1 hz2 rfl (by omega) _ _ _ rfl (ho.alloc _) ⟨wr.heap.size, 0, none⟩ 1 1 [natV nn] rfl rfl (cell_one_new _ _ _) (by simp [Value.oneCell']) (by unfold maxLen; omega) (by omega) (by have := hbR.size; simp; omega) ?_; intro v3 w3 hown3 hg3 _)
                        have hb3 : Below w1.heap.size w1 w3 := below_grown_own (hbR.alloc hbR.size _) ho (Nat.le_refl _) hg3 (by have := hbR.size; simp; omega)
                        clear hg3
                        go_roundw
                        case rel => exact ⟨c + 1, R ++ [nn], by omega, by rw [HNN.out]; go_num, by unfold IntsOwn; simpa using hown3, by simp; omega, Lib.hid (by rw [hR.out, HNN.out, List.range'_concat]; simp), hb3⟩
                        case measure => simp [intOf]; have := HNN.out; omega
                      · obtain rfl : c = top := by omega
                        have q3 : ¬ (((lo + c : Nat) : Int) ≤ (hh : Int)) ∨ (((lo + c : Nat) : Int) ≤ (hh : Int) ∧ ¬ (((lo + c : Nat) : Int) < 32)) := by omega
                        obtain ⟨nn, hnn⟩ : ∃ nn : Nat, nn = lo + c := ⟨_, rfl⟩
                        rw [← hnn] at q3 ⊢
                        have HNN := Lib.hid hnn
                        clear hnn
                        rcases q3 with q3 | ⟨q3, q4⟩
                        all_goals
                          go_wp2_with fail
                          go_roundw
                          case rel => exact ⟨k + 1, R, by omega, by go_num, (by rw [HGX.out]; simp only [Bool.false_or, Bool.true_or]; try (first | rfl | (congr 1; rw [Bool.eq_iff_iff]; simp; omega))), hownR, by omega, Lib.hid (by rw [HFX.out, hR.out, ← HT.out]), HBX, hbR⟩
                          case measure => simp [intOf]; omega
                · have HB := Lib.hid (any_true badB L k hlt (by rw [← HX.out, bad_span (by rw [HP.out, hq, hq2]; exact if_neg hlh)]))
                  clear hq hq2
                  go_wp2_with fail
                  go_ret2
                  exact ⟨by rw [readR_bad HW.out HB.out]; rfl, below_then hb1 hb12⟩
          | cons u M =>
            have HB := Lib.hid (any_true badB L k hlt (by rw [← HX.out, bad_span (span_more hw2)]))
            obtain ⟨n2, hn2⟩ : ∃ n2, n2 = (y :: z :: u :: M).length := ⟨_, rfl⟩
            have hn3 : 2 < n2 := by rw [hn2]; simp
            rw [← hn2]
            clear hw2 hS2 hn2
            go_wp2_with fail
            refine (rsmall y _ hys).mono ?_
            rintro e w' ⟨rfl, rfl⟩
            generalize smallV (num4 y) = sy
            go_wp2_with fail
            go_ret2
            exact ⟨by rw [readR_bad HW.out HB.out]; rfl, below_then hb1 hb12⟩
    · obtain rfl : k = L.length := by omega
      rw [List.take_length] at HG hok hfl
      cases G with
      | true =>
        have HR := Lib.hid (readR_great HW.out hok.out HG.out)
        go_wp2_with fail
        go_ret2
        exact ⟨by rw [HR.out]; rfl, below_then hb1 hb⟩
      | false =>
        have HR := Lib.hid (readR_ok HW.out hok.out HG.out)
        obtain ⟨_, A, c, hv, hI⟩ := ints_own hown.out
        subst hv
        have HI := Lib.hid hI
        have hlm : (l.map Int.ofNat).length = l.length := by simp
        have HO := Lib.hid (of_nat l (by rw [hfl.out]; exact flat_lt L))
        clear hI hown
        go_wp2_with fail
        refine (rof_n _ _ A (l.map Int.ofNat) l.length c hlm.symm HI.out (by unfold maxLen; omega)).mono ?_
        rintro e w' ⟨rfl, rfl⟩
        rw [HO.out.1, HO.out.2]
        go_wp2_with fail
        go_ret2
        exact ⟨by rw [HR.out, hfl.out]; rfl, below_then hb1 hb⟩
set_option maxRecDepth 100000 in
set_option maxHeartbeats 1000000 in
theorem rmparse_all (w : World) : Calls Tryz.prog 95 #[.string txAll] w fun e w' => e = .returned (.tuple #[.int .u64 4294967295, .int .i64 0]) ∧ Below w.heap.size w w' := by
  unfold txAll
  go_enter Tryz.func95, Tryz.ntmps95
  go_wp2_with fail
  go_ret2
  exact ⟨rfl, Below.refl _ _⟩
set_option maxRecDepth 100000 in
set_option maxHeartbeats 1000000 in
theorem rmparse_none (w : World) : Calls Tryz.prog 95 #[.string txNone] w fun e w' => e = .returned (.tuple #[.int .u64 0, .int .i64 0]) ∧ Below w.heap.size w w' := by
  unfold txNone
  go_enter Tryz.func95, Tryz.ntmps95
  go_wp2_with fail
  go_ret2
  exact ⟨rfl, Below.refl _ _⟩
end Go.Proofs.YtbbihfafkpniiaaGreatDoor
/- Both Parse of layer 1 return readM (as in MaskParses, without the laws). -/
namespace Go.Proofs.YtbbihfafkpniiaaGreatDoor
open Go.RowKit
def readV (s : ByteArray) : Value := .tuple #[.int .u64 ((readM s).1 : Int), .int .i64 (readM s).2]
theorem readM_list {s : ByteArray} (h1 : s ≠ txAll) (h2 : s ≠ txNone) : readM s = readL (piecesOf 44 s) := by unfold readM; rw [if_neg h1, if_neg h2]
theorem tx_no {s : ByteArray} (h1 : s ≠ txAll) (h2 : s ≠ txNone) : (s.toList == [97, 108, 108]) = false ∧ (s.toList == [110, 111, 110, 101]) = false := by
  have a := str_ne h1
  have b := str_ne h2
  have e1 : txAll.toList = [97, 108, 108] := by decide +kernel
  have e2 : txNone.toList = [110, 111, 110, 101] := by decide +kernel
  rw [e1] at a
  rw [e2] at b
  exact ⟨a, b⟩
def MReadPost (s : ByteArray) (w : World) (e : Ending) (w' : World) : Prop := e = .returned (readV s) ∧ Below w.heap.size w w'
theorem vmparse (s : ByteArray) (w : World) (hs : s.size ≤ 100000) : Calls Tryz.prog 88 #[.string s] w (MReadPost s w) := by
  by_cases h1 : s = txAll
  · subst h1; exact (vmparse_all w).mono fun _ _ h => ⟨h.1, h.2⟩
  by_cases h2 : s = txNone
  · subst h2; exact (vmparse_none w).mono fun _ _ h => ⟨h.1, h.2⟩
  refine (vmparse_list s w (by omega) (tx_no h1 h2).1 (tx_no h1 h2).2).mono fun _ _ h => ⟨?_, h.2⟩
  rw [h.1]; unfold readV; rw [readM_list h1 h2]
theorem rmparse (s : ByteArray) (w : World) (hs : s.size ≤ 1000) : Calls Tryz.prog 95 #[.string s] w (MReadPost s w) := by
  by_cases h1 : s = txAll
  · subst h1; exact (rmparse_all w).mono fun _ _ h => ⟨h.1, h.2⟩
  by_cases h2 : s = txNone
  · subst h2; exact (rmparse_none w).mono fun _ _ h => ⟨h.1, h.2⟩
  refine (rmparse_list s w hs (tx_no h1 h2).1 (tx_no h1 h2).2).mono fun _ _ h => ⟨?_, h.2⟩
  rw [h.1]; unfold readV; rw [readM_list h1 h2]
theorem grp_len : ∀ l : List Nat, (grp l).length ≤ l.length
  | [] => Nat.le_refl _
  | a :: l => by
    have ih := grp_len l
    unfold grp
    split
    · simp
    · rename_i b c r hg
      rw [hg] at ih
      split
      · simp at ih ⊢; omega
      · simp at ih ⊢; omega
theorem mod_lt32 (m : Nat) : m % 4294967296 < 4294967296 := Nat.mod_lt _ (by omega)
theorem maskS_size (m : Nat) : (maskS m).size ≤ 1000 := by
  unfold maskS
  split
  · show 3 ≤ 1000; omega
  · split
    · show 4 ≤ 1000; omega
    · show (Lib.join ((grp (memF m 0)).map rtext) [44]).toArray.size ≤ 1000
      rw [List.size_toArray]
      have hG : ∀ p ∈ grp (memF m 0), p.1 < 32 ∧ p.2 < 32 := grp_small fun x hx => (memF_ge m 0 x hx).2
      have := join_len ((grp (memF m 0)).map rtext) (fun x hx => by obtain ⟨p, hp, rfl⟩ := List.mem_map.1 hx; exact rtext_len p (hG p hp))
      have hl : (grp (memF m 0)).length ≤ (memF m 0).length := grp_len _
      have hm := memF_len m 0
      rw [List.length_map] at this
      omega
end Go.Proofs.YtbbihfafkpniiaaGreatDoor

/- Texts of one proof, laid together. -/
import Derived.Test.YtbbihfafkpniiaaGreatDoorE503
import Derived.Test.YtbbihfafkpniiaaGreatDoorV03
import Derived.Test.YtbbihfafkpniiaaGreatDoorC25
import Derived.Test.YtbbihfafkpniiaaGreatDoorE401
import Derived.Test.YtbbihfafkpniiaaGreatDoorE301
import Derived.Test.YtbbihfafkpniiaaGreatDoorC26
import Derived.Test.YtbbihfafkpniiaaGreatDoorC02
/- Parse of rules, of the reference. -/
namespace Go.Proofs.YtbbihfafkpniiaaGreatDoor
open Go.RowKit
theorem add_succ (ad : Addr) (k : Nat) : ad.add (k + 1) = ⟨ad.block, ad.off + (k + 1), none⟩ := by unfold Addr.add; rw [if_neg (by omega)]
theorem own_tests' {w : World} {lo : Nat} {T : Option Addr} {tn tc : Nat} {ts : List Tst} (h : OwnT w lo (.slice T tn tc) ts) : TestsAt w w.heap.size T ts := h.at
theorem bad_len {s : ByteArray} {L : List ByteArray} (hw : IsW 32 s L) (h : L.length % 2 ≠ 0 ∨ 28 < L.length) : RIs s zeroR 136 := by
  refine .inr ⟨rfl, rfl, fun r0 hg => ⟨fun e => ?_, fun hs e => ?_⟩⟩
  · have e2 := words_of_text e hw
    have : L = wordsR r0 := e2
    have hev := words_even hg.ok
    rw [← this] at hev
    omega
  · have e2 := words_of_short e hw
    have hev := hand_even (r0 := r0)
    rw [← e2] at hev
    omega
/-- How far the words have been read. -/
structure ReadTo (L : List ByteArray) (k : Nat) (r : Rul) : Prop where
  t : ∀ r0, GoodR r0 → L = wordsR r0 → AtR r0 k r
  h : ∀ r0, shortB r0 = true → L = flagW r0.wa :: restW r0 → AtH r0 k r
theorem ReadTo.start (L : List ByteArray) : ReadTo L 0 zeroR := ⟨fun _ _ _ => .inl ⟨rfl, rfl⟩, fun _ _ _ => .inl ⟨rfl, rfl⟩⟩
theorem ReadTo.step {L : List ByteArray} {k : Nat} {r r' : Rul} {f x : ByteArray} (h : ReadTo L k r) (hf : L[k]? = some f) (hx : L[k + 1]? = some x) (hr : ReadR r f x r') : ReadTo L (k + 2) r' :=
  ⟨fun r0 hg e => (h.t r0 hg e).step hg (by rw [← e]; exact hf) (by rw [← e]; exact hx) hr, fun r0 hs e => (h.h r0 hs e).step hs (by rw [← e]; exact hf) (by rw [← e]; exact hx) hr⟩
theorem ReadTo.none {s : ByteArray} {L : List ByteArray} {r : Rul} (h : ReadTo L L.length r) (hw : IsW 32 s L) (hno : ¬ ((checkR r = 0 ∧ textR r = s) ∨ (shortB r = true ∧ shortT r = s))) : RIs s zeroR 136 := by
  refine .inr ⟨rfl, rfl, fun r0 hg => ⟨fun e => ?_, fun hs e => ?_⟩⟩
  · have e2 : L = wordsR r0 := words_of_text e hw
    have := (h.t r0 hg e2).stop hg.ok (by rw [← e2])
    subst this
    exact hno (.inl ⟨hg.ok, e⟩)
  · have e2 := words_of_short e hw
    have := (h.h r0 hs e2).stop hs (by rw [← e2])
    subst this
    exact hno (.inr ⟨hs, e⟩)
theorem ris_yes {s : ByteArray} {r : Rul} (hn : ∀ t ∈ r.ts, I64 t.nu) (h : (checkR r = 0 ∧ textR r = s) ∨ (shortB r = true ∧ shortT r = s)) : RIs s r 0 := by
  rcases h with ⟨h1, h2⟩ | ⟨h1, h2⟩
  · exact .inl ⟨rfl, ⟨h1, hn⟩, .inl h2⟩
  · exact .inl ⟨rfl, ⟨(shortB_spec h1).1, hn⟩, .inr ⟨h1, h2⟩⟩
theorem rp_nil {r : Rul} (h : shortT r = ⟨#[]⟩) : False := by
  have e2 := congrArg (fun s : ByteArray => s.data.toList.length) h
  unfold shortT at e2
  simp only [catW_list, List.length_append] at e2
  have : (flagW r.wa).data.toList.length = 2 := by unfold flagW; split <;> rfl
  rw [this] at e2
  simp at e2
theorem rp_some {s : ByteArray} (h : s ≠ ⟨#[]⟩) : s.toList.isEmpty = false := by
  have := str_ne h
  rw [show (⟨#[]⟩ : ByteArray).toList = [] by decide +kernel] at this
  cases hl : s.toList with
  | nil => rw [hl] at this; cases this
  | cons a l => rfl
theorem rp_yes {r : Rul} {s : ByteArray} (h : shortB r = true ∧ shortT r = s) : ((shortS r).toList == s.toList) = true := str_eq ((if_pos h.1).trans h.2)
theorem rp_no {r : Rul} {s : ByteArray} (he : s ≠ ⟨#[]⟩) (h : ¬ (shortB r = true ∧ shortT r = s)) : ((shortS r).toList == s.toList) = false := by
  refine str_ne fun e => ?_
  by_cases hb : shortB r = true
  · exact h ⟨hb, (if_pos hb : shortS r = shortT r).symm.trans e⟩
  · exact he (e.symm.trans (if_neg hb))
theorem rp_fmt {r : Rul} (h : checkR r = 0) : fmtR r = textR r := if_pos h
attribute [local irreducible] unqS unqE quoteS permS permL checkR shortT textR fmtR shortS shortB
set_option maxRecDepth 100000 in
set_option maxHeartbeats 8000000 in
theorem rparseR (s : ByteArray) (hs : s.size ≤ 1000) (w : World) : Calls Tryz.prog 33 #[.string s] w (RParsePost s w) := by
  obtain ⟨z0, b0⟩ := rul_box w zeroR noT
  have Z0 := Lib.hid z0
  have B0 := Lib.hid b0
  clear z0 b0
  go_enter Tryz.func33, Tryz.ntmps33
  go_wp2_with fail
  refine (rcut s 32 32 rfl _ (by omega)).mono ?_
  rintro e w1 ⟨v, L, rfl, hw, ho, hb1⟩
  obtain ⟨A, c, ev, hS⟩ := ho.strs
  subst ev
  have HZ1 := Lib.hid (Blk.below Z0.out hb1)
  have HB1 := Lib.hid (below_then B0.out hb1)
  have HW := Lib.hid hw
  have HS := Lib.hid hS
  have hsz := hw.size
  have HSZ := Lib.hid (show ∀ x ∈ L, x.size ≤ 1000 from fun x hx => by have := hsz.2 x hx; omega)
  obtain ⟨n, hn⟩ : ∃ n, L.length = n := ⟨_, rfl⟩
  have HLEN := Lib.hid hn
  have hn1 : n ≤ 1001 := by omega
  have HBL := Lib.hid (fun (h : L.length % 2 ≠ 0 ∨ 28 < L.length) => bad_len hw h)
  rw [hn] at HBL
  rw [hn]
  clear hw hS ho hb1 hsz hn
  go_upto_region 2 with (fail)
  go_cut [19] (fun v wx => ∃ t : Bool, v = .bool t ∧ (t = true → n % 2 ≠ 0 ∨ 28 < n) ∧ (t = false → n % 2 = 0 ∧ n ≤ 28) ∧ wx = w1)
  case first =>
    by_cases h2 : n % 2 = 0
    · have t1 : ((n : Int).tmod 2 != 0) = false := by rw [show (n : Int).tmod 2 = ((n % 2 : Nat) : Int) from rfl, h2]; rfl
      by_cases h28 : n ≤ 28
      · have t2 : decide ((28 : Int) < (n : Int)) = false := by simp; omega
        go_wp2_with fail
        go_meet
        exact ⟨false, rfl, fun h => absurd h (by decide), fun _ => ⟨h2, h28⟩, rfl⟩
      · have t2 : decide ((28 : Int) < (n : Int)) = true := by simp; omega
        go_wp2_with fail
        go_meet
        exact ⟨true, rfl, fun _ => .inr (by omega), fun h => absurd h (by decide), rfl⟩
    · have t1 : ((n : Int).tmod 2 != 0) = true := by rw [show (n : Int).tmod 2 = ((n % 2 : Nat) : Int) from rfl]; simp; omega
      go_wp2_with fail
      go_meet
      exact ⟨true, rfl, fun _ => .inl h2, fun h => absurd h (by decide), rfl⟩
  case rest =>
  obtain ⟨t, rfl, ht1, ht2, rfl⟩ := hcut
  cases t
  case true =>
    have HR := Lib.hid (HBL.out (ht1 (by first | rfl | trivial)))
    clear ht1 ht2 HBL
    go_wp2_with ((with_reducible refine store_blk ?_ 26 (.tmp 2) (.tmp 20) ?_ HZ1.out (rulC zeroR noT) ?_ ?_ ?_ ?_ ?_ ?_); (iterate 4 rfl); (exact rul_sz _ _); rfl; (exact rul_one _ _ _ _))
    refine bodyPost_ret (rul_ret2 (fn := Tryz.f33) rfl _ _ w.heap.size zeroR noT rfl (Blk.row HZ1.out _)) rfl ?_
    exact ⟨zeroR, none, 0, 0, 136, rfl, rfl, HR.out, TestsAt.nil, below_row HB1.out (Nat.le_refl _) _⟩
  have HEV := Lib.hid (ht2 (by first | rfl | trivial))
  clear ht1 ht2 HBL
  have hgr : w.heap.size < wc.heap.size := HZ1.out.lt
  have ST0 := Lib.hid (show QSt (wc.alloc (.cells (rulC zeroR noT) 26)) (wc.alloc (.cells (rulC zeroR noT) 26)) wc.heap.size zeroR noT from ⟨Blk.new wc _ _, OwnT.nil _ _, Below.refl _ _⟩)
  have HBA : Below wc.heap.size wc (wc.alloc (.cells (rulC zeroR noT) 26)) := (Below.refl _ _).alloc (Nat.le_refl _) _
  have HZA := Lib.hid (Blk.below HZ1.out HBA)
  have HBA1 := Lib.hid (below_then HB1.out HBA)
  have HSA := Lib.hid (HS.out.keep HBA (Nat.le_refl _))
  clear HZ1 HB1 HBA HS
  go_wp2_with fail
  go_loopw [6] (fun i wr => ∃ (k : Nat) (r : Rul) (tv : Value), i = .int .i64 (k : Int) ∧ k ≤ n ∧ k % 2 = 0 ∧ QSt (wc.alloc (.cells (rulC zeroR noT) 26)) wr wc.heap.size r tv ∧ RdR r k ∧ Hid (ReadTo L k r)) (fun i _ => n - (intOf i).toNat)
  case atStart => exact ⟨0, zeroR, noT, rfl, Nat.zero_le _, rfl, ST0.out, RdR.zero 0, ReadTo.start L⟩
  case round =>
    obtain ⟨k, r, tv, rfl, hk, hk2, hst, hrr, hrt⟩ := hrel
    have ST := Lib.hid hst
    have HR := Lib.hid hrr
    have HLO := Lib.hid hst.low
    clear hst hrr ST0
    by_cases hlt : k < n
    · have hk1 : k + 1 < n := by have := HEV.out.1; omega
      have hlL : k < L.length := by rw [HLEN.out]; exact hlt
      have hlL1 : k + 1 < L.length := by rw [HLEN.out]; exact hk1
      obtain ⟨ad, hA, hbl, c0⟩ := HSA.out k hlL
      obtain ⟨ad', hA', hbl', c1⟩ := HSA.out (k + 1) hlL1
      rw [hA] at hA'
      injection hA' with hA'
      subst hA'
      subst hA
      have k0 := (HLO.out.cell (by rw [strs_block]; exact hbl)).trans c0
      have k1 := (HLO.out.cell (by rw [strs_block]; exact hbl)).trans c1
      rw [add_succ] at k1
      have HF := Lib.hid (List.getElem?_eq_getElem hlL)
      have HX := Lib.hid (List.getElem?_eq_getElem hlL1)
      have HXZ := Lib.hid (HSZ.out _ (List.getElem_mem hlL1))
      clear c0 c1 hbl hbl'
      generalize L[k] = f at *
      generalize L[k + 1] = x at *
      clear hlL hlL1
      have d0 : (0 : Int) ≤ (k : Int) := by omega
      have d1 : (k : Int) < (n : Int) := by omega
      have d2 : (0 : Int) ≤ (k : Int) + 1 := by omega
      have d3 : (k : Int) + 1 < (n : Int) := by omega
      have d4 : IntKind.i64.wrap ((k : Int) + 1) = (k : Int) + 1 := IntWalk.i64_in _ (by omega)
      have d5 : ((k : Int) + 1).toNat = k + 1 := by omega
      go_wp2_with fail
      go_still_tail 9, (by kernel_rfl)
      go_wp2_with fail
      refine (rreadR wc.heap.size r tv f x HXZ.out (by have := HR.out.ln; omega) _ ST.out.drew.at).mono ?_
      rintro e w2 ⟨r', tv', rfl, hq, hm, hread⟩
      have STn := Lib.hid (ST.out.drew.then hq)
      have HRn := Lib.hid ((hm k HR.out).more (show k + 1 ≤ k + 2 by omega))
      have HTn := Lib.hid (hrt.out.step HF.out HX.out hread)
      clear hq hm hread k0 k1
      go_wp2_with fail
      go_roundw
      case rel => exact ⟨k + 2, r', tv', by go_num, by omega, by omega, STn.out, HRn.out, HTn⟩
      case measure => simp [intOf]; omega
    · have hkn : k = n := by omega
      subst hkn
      have d1 : ¬ (k : Int) < (k : Int) := by omega
      obtain ⟨T, tc, hf, _⟩ := ST.out.form
      subst hf
      have HFM := Lib.hid (fun (W : World) (h : QSt (wc.alloc (.cells (rulC zeroR noT) 26)) W wc.heap.size r (.slice T r.ts.length tc)) => rformatR r T r.ts.length tc rfl (HR.out.siz (by omega)) HR.out.num W (own_tests' h.own))
      have HSH := Lib.hid (fun (W : World) (h : QSt (wc.alloc (.cells (rulC zeroR noT) 26)) W wc.heap.size r (.slice T r.ts.length tc)) => rshortS r T r.ts.length tc rfl (HR.out.siz (by omega)) W (own_tests' h.own))
      have HNU := Lib.hid HR.out.num
      simp only [fmtV] at HFM
      go_wp2_with ((with_reducible refine load_blk ?_ 26 (.tmp 5) ?_ ST.out.x ?_ _ Tryz.underlying26 ?_ ?_ ?_); (iterate 4 rfl); exact rul_sz _ _)
      refine (HFM.out _ ST.out).mono ?_
      rintro e w2 ⟨rfl, hb2⟩
      have ST2 := Lib.hid (ST.out.below hb2)
      clear hb2 ST HFM d1
      go_upto_region 10 with (fail)
      go_cut [58] (fun v wx => ∃ t : Bool, v = .bool t ∧ (t = true → (checkR r = 0 ∧ textR r = s) ∨ (shortB r = true ∧ shortT r = s)) ∧ (t = false → ¬ ((checkR r = 0 ∧ textR r = s) ∨ (shortB r = true ∧ shortT r = s))) ∧ QSt (wc.alloc (.cells (rulC zeroR noT) 26)) wx wc.heap.size r (.slice T r.ts.length tc))
      case first =>
        by_cases hc : checkR r = 0
        · have t1 : (checkR r == 0) = true := by rw [hc]; rfl
          by_cases ht : textR r = s
          · have t2 : ((fmtR r).toList == s.toList) = true := str_eq ((rp_fmt hc).trans ht)
            have HY := Lib.hid (show (checkR r = 0 ∧ textR r = s) ∨ (shortB r = true ∧ shortT r = s) from .inl ⟨hc, ht⟩)
            clear hc ht
            go_wp2_with fail
            go_meet
            exact ⟨true, rfl, fun _ => HY.out, fun h => absurd h (by decide), ST2.out⟩
          · have t2 : ((fmtR r).toList == s.toList) = false := str_ne (fun e => ht ((rp_fmt hc).symm.trans e))
            have hno : ¬ (checkR r = 0 ∧ textR r = s) := fun h => ht h.2
            clear hc ht
            by_cases he : s = ⟨#[]⟩
            · have te : s.toList.isEmpty = true := by rw [he]; decide +kernel
              have HNO := Lib.hid (show ¬ ((checkR r = 0 ∧ textR r = s) ∨ (shortB r = true ∧ shortT r = s)) from fun h => h.elim hno (fun h => rp_nil (h.2.trans he)))
              clear he hno
              go_wp2_with fail
              go_meet
              exact ⟨false, rfl, fun h => absurd h (by decide), fun _ => HNO.out, ST2.out⟩
            · have te : s.toList.isEmpty = false := rp_some he
              by_cases hq : shortB r = true ∧ shortT r = s
              · have HY := Lib.hid (show (checkR r = 0 ∧ textR r = s) ∨ (shortB r = true ∧ shortT r = s) from .inr hq)
                have t4 : ((shortS r).toList == s.toList) = true := rp_yes hq
                clear he hno hq
                go_wp2_with ((with_reducible refine load_blk_gR ?_ 26 (.tmp 5) ?_ ST2.out.x ?_ _ Tryz.underlying26 ?_ ?_ ?_); (iterate 4 rfl); exact rul_sz _ _)
                refine (HSH.out _ ST2.out).mono ?_
                rintro e w3 ⟨rfl, hb3⟩
                have ST3 := Lib.hid (ST2.out.below hb3)
                clear hb3
                go_wp2_with fail
                go_meet
                exact ⟨true, rfl, fun _ => HY.out, fun h => absurd h (by decide), ST3.out⟩
              · have HNO := Lib.hid (show ¬ ((checkR r = 0 ∧ textR r = s) ∨ (shortB r = true ∧ shortT r = s)) from fun h => h.elim hno hq)
                have t4 : ((shortS r).toList == s.toList) = false := rp_no he hq
                clear he hno hq
                go_wp2_with ((with_reducible refine load_blk_gR ?_ 26 (.tmp 5) ?_ ST2.out.x ?_ _ Tryz.underlying26 ?_ ?_ ?_); (iterate 4 rfl); exact rul_sz _ _)
                refine (HSH.out _ ST2.out).mono ?_
                rintro e w3 ⟨rfl, hb3⟩
                have ST3 := Lib.hid (ST2.out.below hb3)
                clear hb3
                go_wp2_with fail
                go_meet
                exact ⟨false, rfl, fun h => absurd h (by decide), fun _ => HNO.out, ST3.out⟩
        · have t1 : (checkR r == 0) = false := by simpa using hc
          have hno : ¬ (checkR r = 0 ∧ textR r = s) := fun h => hc h.1
          clear hc
          by_cases he : s = ⟨#[]⟩
          · have te : s.toList.isEmpty = true := by rw [he]; decide +kernel
            have HNO := Lib.hid (show ¬ ((checkR r = 0 ∧ textR r = s) ∨ (shortB r = true ∧ shortT r = s)) from fun h => h.elim hno (fun h => rp_nil (h.2.trans he)))
            clear he hno
            go_wp2_with fail
            go_meet
            exact ⟨false, rfl, fun h => absurd h (by decide), fun _ => HNO.out, ST2.out⟩
          · have te : s.toList.isEmpty = false := rp_some he
            by_cases hq : shortB r = true ∧ shortT r = s
            · have HY := Lib.hid (show (checkR r = 0 ∧ textR r = s) ∨ (shortB r = true ∧ shortT r = s) from .inr hq)
              have t4 : ((shortS r).toList == s.toList) = true := rp_yes hq
              clear he hno hq
              go_wp2_with ((with_reducible refine load_blk_gR ?_ 26 (.tmp 5) ?_ ST2.out.x ?_ _ Tryz.underlying26 ?_ ?_ ?_); (iterate 4 rfl); exact rul_sz _ _)
              refine (HSH.out _ ST2.out).mono ?_
              rintro e w3 ⟨rfl, hb3⟩
              have ST3 := Lib.hid (ST2.out.below hb3)
              clear hb3
              go_wp2_with fail
              go_meet
              exact ⟨true, rfl, fun _ => HY.out, fun h => absurd h (by decide), ST3.out⟩
            · have HNO := Lib.hid (show ¬ ((checkR r = 0 ∧ textR r = s) ∨ (shortB r = true ∧ shortT r = s)) from fun h => h.elim hno hq)
              have t4 : ((shortS r).toList == s.toList) = false := rp_no he hq
              clear he hno hq
              go_wp2_with ((with_reducible refine load_blk_gR ?_ 26 (.tmp 5) ?_ ST2.out.x ?_ _ Tryz.underlying26 ?_ ?_ ?_); (iterate 4 rfl); exact rul_sz _ _)
              refine (HSH.out _ ST2.out).mono ?_
              rintro e w3 ⟨rfl, hb3⟩
              have ST3 := Lib.hid (ST2.out.below hb3)
              clear hb3
              go_wp2_with fail
              go_meet
              exact ⟨false, rfl, fun h => absurd h (by decide), fun _ => HNO.out, ST3.out⟩
      case rest =>
      obtain ⟨t, rfl, ht1, ht2, st⟩ := hcut
      have ST3 := Lib.hid st
      have HLW := Lib.hid (HBA1.out.trans (st.low.mono (Nat.le_of_lt hgr)))
      have HZ3 := Lib.hid (Blk.keep HZA.out st.low hgr)
      clear st ST2
      cases t
      · have HRI := Lib.hid (ReadTo.none (r := r) (by rw [HLEN.out]; exact hrt.out) HW.out (ht2 (by first | rfl | trivial)))
        clear ht1 ht2
        go_wp2_with ((with_reducible refine store_blk ?_ 26 (.tmp 2) (.tmp 60) ?_ HZ3.out (rulC zeroR noT) ?_ ?_ ?_ ?_ ?_ ?_); (iterate 4 rfl); (exact rul_sz _ _); rfl; (exact rul_one _ _ _ _))
        refine bodyPost_ret (rul_ret2 (fn := Tryz.f33) rfl _ _ w.heap.size zeroR noT rfl (Blk.row HZ3.out _)) rfl ?_
        exact ⟨zeroR, none, 0, 0, 136, rfl, rfl, HRI.out, TestsAt.nil, below_row HLW.out (Nat.le_refl _) _⟩
      · have HRI := Lib.hid (ris_yes HNU.out (ht1 (by first | rfl | trivial)))
        clear ht1 ht2
        go_wp2_with (first | ((with_reducible refine load_blk ?_ 26 (.tmp 5) ?_ ST3.out.x ?_ _ Tryz.underlying26 ?_ ?_ ?_); (iterate 4 rfl); exact rul_sz _ _) | ((with_reducible refine store_blk ?_ 26 (.tmp 2) (.tmp 59) ?_ HZ3.out (rulC r (.slice T r.ts.length tc)) ?_ ?_ ?_ ?_ ?_ ?_); (iterate 4 rfl); (exact rul_sz _ _); rfl; (exact rul_one _ _ _ _)))
        refine bodyPost_ret (rul_ret2 (fn := Tryz.f33) rfl _ _ w.heap.size r (.slice T r.ts.length tc) rfl (Blk.row HZ3.out _)) rfl ?_
        exact ⟨r, T, r.ts.length, tc, 0, rfl, rfl, HRI.out, own_tests' (ST3.out.own.row (by omega) _), below_row HLW.out (Nat.le_refl _) _⟩
end Go.Proofs.YtbbihfafkpniiaaGreatDoor
/- Both Parse of rules agree: reads; the walk of the law RuleParses. -/
namespace Go.Proofs.YtbbihfafkpniiaaGreatDoor
open Go.RowKit
/-- A rule that was read, in a block. -/
structure RdB2 (wr : World) (gq : Nat) (r : Rul) (U : Option Addr) (m d : Nat) : Prop where
  x : RulB wr gq r (.slice U m d)
  t : TestsAt wr wr.heap.size U r.ts
theorem RdB2.below {wr w' : World} {gq : Nat} {r : Rul} {U : Option Addr} {m d : Nat} (h : RdB2 wr gq r U m d) (hb : Below wr.heap.size wr w') : RdB2 w' gq r U m d := ⟨Blk.below h.x hb, (h.t.keep hb (Nat.le_refl _)).more hb.size⟩
theorem RdB2.new {w : World} {r : Rul} {U : Option Addr} {m d : Nat} (ht : TestsAt w w.heap.size U r.ts) : RdB2 (w.alloc (.cells (rulC r (.slice U m d)) 26)) w.heap.size r U m d := by
  have hb : Below w.heap.size w (w.alloc (.cells (rulC r (.slice U m d)) 26)) := (Below.refl _ _).alloc (Nat.le_refl _) _
  exact ⟨Blk.new w _ _, (ht.keep hb (Nat.le_refl _)).more hb.size⟩
theorem cat_le {a s : ByteArray} (h : s.size ≤ 500) (ha : a.size ≤ 100) : (a ++ s).size ≤ 1000 := by rw [ByteArray.size_append]; omega
theorem ris_len {s : ByteArray} {r : Rul} {er : Int} (h : RIs s r er) : r.ts.length ≤ 8 := by
  rcases h with ⟨_, h, _⟩ | ⟨_, rfl, _⟩
  · exact (checkR_zero h.ok).len
  · exact Nat.zero_le _
attribute [local irreducible] checkR fmtR textR shortT shortB
set_option maxRecDepth 100000 in
set_option maxHeartbeats 4000000 in
theorem readsR (s : ByteArray) (hs : s.size ≤ 1000) (w : World) (hG : RGlob w) (hE : Env w) :
    Calls Tryz.prog 21 #[.string s] w fun e w' => e = .returned (.bool true) ∧ Below w.heap.size w w' := by
  have HV := Lib.hid (vparse s (by omega) w hG hE)
  clear hG hE
  go_enter Tryz.func21, Tryz.ntmps21
  go_wp2_with fail
  refine HV.out.mono ?_
  rintro e w1 ⟨q, U, un, uc, er, rfl, hun, hri, htq, hb1⟩
  have HB1 := Lib.hid (hb1.alloc hb1.size (.cells (rulC q (.slice U un uc)) 26))
  have RB1 := Lib.hid (RdB2.new (m := un) (d := uc) htq)
  have HUN := Lib.hid hun
  have HRI := Lib.hid hri
  clear hb1 htq hun hri HV
  go_wp2_with fail
  refine (rparseR s hs _).mono ?_
  rintro e w2 ⟨x, V, vn, vc, er2, rfl, hvn, hrx, htx, hb2⟩
  obtain ⟨rfl, rfl⟩ := HRI.out.unique hrx
  have RB2 := Lib.hid ((RB1.out.below hb2).below ((Below.refl w2.heap.size w2).alloc (Nat.le_refl _) (.cells (rulC q (.slice V vn vc)) 26)))
  have RB3 := Lib.hid (RdB2.new (m := vn) (d := vc) htx)
  have HB2 := Lib.hid ((below_then HB1.out hb2).alloc (below_then HB1.out hb2).size (.cells (rulC q (.slice V vn vc)) 26))
  have HVN := Lib.hid hvn
  have HLN := Lib.hid (ris_len hrx)
  clear hb2 htx hvn hrx RB1 HB1 HRI
  have t1 : (er == er) = true := by simp
  have HEQ := Lib.hid (fun (W : World) (h : RdB2 W w1.heap.size q U un uc) (k : RdB2 W w2.heap.size q V vn vc) => requalR q q U V un vn uc vc HUN.out HVN.out (by have := HUN.out; have := HLN.out; omega) W h.t k.t)
  go_wp2_with (first | ((with_reducible refine load_blk_gR ?_ 26 (.tmp 3) ?_ RB2.out.x ?_ _ Tryz.underlying26 ?_ ?_ ?_); (iterate 4 rfl); exact rul_sz _ _) | ((with_reducible refine load_blk_gR ?_ 26 (.tmp 5) ?_ RB3.out.x ?_ _ Tryz.underlying26 ?_ ?_ ?_); (iterate 4 rfl); exact rul_sz _ _))
  refine (HEQ.out _ RB2.out RB3.out).mono ?_
  rintro e w3 ⟨y, rfl, hy, hb3⟩
  obtain rfl := hy.2 rfl
  have HB3 := Lib.hid (below_then HB2.out hb3)
  clear hb3 hy
  go_wp2_with fail
  go_ret
  exact ⟨rfl, HB3.out⟩
set_option maxRecDepth 100000 in
set_option maxHeartbeats 4000000 in
theorem ruleParses_walk (w : World) (s : ByteArray) (hm : s.size ≤ maxLen) (hG : RGlob w) (hE : Env w) :
    Calls Tryz.prog 5 #[.string s] w fun e w' => e = .returned (.bool true) ∧ Below w.heap.size w w' := by
  have HAW := Lib.hid (fun (W : World) (h : Below w.heap.size w W) => awakeR W (hG.below h) (hE.below h))
  have HRD := Lib.hid (fun (x : ByteArray) (hx : x.size ≤ 1000) (W : World) (h : Below w.heap.size w W) => readsR x hx W (hG.below h) (hE.below h))
  clear hG hE
  unfold maxLen at hm
  by_cases h5 : s.size ≤ 500
  case neg =>
    have h6 : 500 < s.size := by omega
    clear h5
    go_enter Tryz.func5, Tryz.ntmps5
    go_wp2_with fail
    refine (HAW.out _ (Below.refl _ _)).mono ?_
    rintro e w2 ⟨rfl, hb2⟩
    have HB2 := Lib.hid hb2
    clear hb2
    go_wp2_with fail
    go_ret
    exact ⟨rfl, HB2.out⟩
  case pos =>
    have d5 : decide ((500 : Int) < (s.size : Int)) = false := by simp; omega
    go_enter Tryz.func5, Tryz.ntmps5
    go_wp2_with fail
    refine (HRD.out _ (by omega) _ (Below.refl _ _)).mono ?_
    rintro e w1 ⟨rfl, hb1⟩
    have HB1 := Lib.hid hb1
    clear hb1
    go_wp2_with fail
    refine (HRD.out _ (cat_le h5 (by decide)) _ HB1.out).mono ?_
    rintro e w2 ⟨rfl, hb⟩
    have HB2 := Lib.hid (below_then HB1.out hb)
    clear hb HB1
    go_wp2_with fail
    refine (HRD.out _ (cat_le h5 (by decide)) _ HB2.out).mono ?_
    rintro e w3 ⟨rfl, hb⟩
    have HB3 := Lib.hid (below_then HB2.out hb)
    clear hb HB2
    go_wp2_with fail
    refine (HRD.out _ (cat_le h5 (by decide)) _ HB3.out).mono ?_
    rintro e w4 ⟨rfl, hb⟩
    have HB4 := Lib.hid (below_then HB3.out hb)
    clear hb HB3
    go_wp2_with fail
    refine (HRD.out _ (cat_le h5 (by decide)) _ HB4.out).mono ?_
    rintro e w5 ⟨rfl, hb⟩
    have HB5 := Lib.hid (below_then HB4.out hb)
    clear hb HB4
    go_wp2_with fail
    refine (HAW.out _ HB5.out).mono ?_
    rintro e w6 ⟨rfl, hb⟩
    have HB6 := Lib.hid (below_then HB5.out hb)
    clear hb HB5
    go_wp2_with fail
    go_ret
    exact ⟨rfl, HB6.out⟩
end Go.Proofs.YtbbihfafkpniiaaGreatDoor
/- The walk of RuleParses, with what the row lists. -/

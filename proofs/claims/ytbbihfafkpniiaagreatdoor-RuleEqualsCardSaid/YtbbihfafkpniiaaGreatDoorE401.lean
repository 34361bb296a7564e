/- Texts of one proof, laid together. -/
import Derived.Test.YtbbihfafkpniiaaGreatDoorC22
import Derived.Test.YtbbihfafkpniiaaGreatDoorE301
import Derived.Test.YtbbihfafkpniiaaGreatDoorV03
import Derived.Test.YtbbihfafkpniiaaGreatDoorC24
import Derived.Test.YtbbihfafkpniiaaGreatDoorC26
import Derived.Test.YtbbihfafkpniiaaGreatDoorC02
/- The short form of rules: the reference's Short. -/
namespace Go.Proofs.YtbbihfafkpniiaaGreatDoor
open Go.RowKit
theorem short_no {r : Rul} (h : ¬ (checkR r = 0 ∧ (r.wa ≠ 0 ∧ r.li = 3 ∧ r.ac = 1 ∧ r.ts.length = 0 ∧ r.ca = allCalls))) : shortS r = ⟨#[]⟩ := by
  unfold shortS shortB
  rw [if_neg (by simp only [Bool.and_eq_true, decide_eq_true_eq]; exact h)]
theorem short_yes {r : Rul} (h : checkR r = 0) (h2 : r.wa ≠ 0 ∧ r.li = 3 ∧ r.ac = 1 ∧ r.ts.length = 0 ∧ r.ca = allCalls) : shortS r = shortT r := by
  unfold shortS shortB
  rw [if_pos (by simp only [Bool.and_eq_true, decide_eq_true_eq]; exact ⟨h, h2⟩)]
attribute [local irreducible] checkF watchB callsB firstE checkR cleanB callsOk textR headW maskS quoteS testS anyE permS catW listN actN cellsAc cellsLi keyT shortT shortS flagW
set_option maxRecDepth 100000 in
set_option maxHeartbeats 16000000 in
theorem rshortS (r : Rul) (A : Option Addr) (n c : Nat) (hn : n = r.ts.length) (hz : SizR r) (w : World) (hT : TestsAt w w.heap.size A r.ts) :
    Calls Tryz.prog 23 #[rulV r (.slice A n c)] w fun e w' => e = .returned (.string (shortS r)) ∧ Below w.heap.size w w' := by
  obtain ⟨HG0, HB0⟩ := rul_box w r (.slice A n c)
  have HV := Lib.hid (rcheckR r A c n hn hz (w.alloc (.cells (rulC r (.slice A n c)) 26)) ((hT.keep HB0 (Nat.le_refl _)).more HB0.size))
  have HBX := Lib.hid HB0
  have HGX := Lib.hid HG0
  have HNO := Lib.hid (short_no (r := r))
  have hln : n ≤ 1000000 := by rw [hn]; exact hz.ln
  have HN := Lib.hid hn
  clear HG0 HB0 hT hz hn
  by_cases h0 : checkR r = 0
  case neg =>
    have bn := ret_ne h0
    have HR := Lib.hid (HNO.out (fun h => h0 h.1))
    clear h0
    go_enter Tryz.func23, Tryz.ntmps23
    go_wp2_with fail
    refine HV.out.mono ?_
    rintro e w1 ⟨rfl, hb1⟩
    go_wp2_with fail
    go_ret
    exact ⟨congrArg (fun b => Ending.returned (.string b)) HR.out.symm, below_then HBX.out hb1⟩
  case pos =>
  have hc := checkR_zero h0
  have HC0 := Lib.hid h0
  rw [h0] at HV
  have HWT := Lib.hid (watch_ok hc)
  have hke : r.ke.size ≤ 31 := hc.key
  clear hc h0
  go_enter Tryz.func23, Tryz.ntmps23
  go_wp2_with fail
  refine HV.out.mono ?_
  rintro e w1 ⟨rfl, hb1⟩
  have st1 : RSt w w1 r (.slice A n c) (.string ⟨#[]⟩) ⟨#[]⟩ := ⟨rfl, Blk.below HGX.out hb1, below_then HBX.out hb1⟩
  have ST1 := Lib.hid st1
  have c0 := RulB.c0 st1.g
  have c1 := RulB.c1 st1.g
  have c2 := RulB.c2 st1.g
  have c3 := RulB.c3 st1.g
  have c4 := RulB.c4 st1.g
  clear hb1 st1 HV
  by_cases h1 : r.wa = 0
  · have b1 : (r.wa == 0) = true := by simp; omega
    have HR := Lib.hid (HNO.out (fun h => h.2.1 h1))
    clear h1
    go_wp2_with fail
    go_ret
    exact ⟨congrArg (fun b => Ending.returned (.string b)) HR.out.symm, ST1.out.low⟩
  have b1 : (r.wa == 0) = false := by simp; omega
  by_cases h2 : r.li = 3
  case neg =>
    have b2 : (r.li != 3) = true := by simp; omega
    have HR := Lib.hid (HNO.out (fun h => h2 h.2.2.1))
    clear h1 h2
    go_wp2_with fail
    go_ret
    exact ⟨congrArg (fun b => Ending.returned (.string b)) HR.out.symm, ST1.out.low⟩
  have b2 : (r.li != 3) = false := by simp; omega
  by_cases h3 : r.ac = 1
  case neg =>
    have b3 : (r.ac != 1) = true := by simp; omega
    have HR := Lib.hid (HNO.out (fun h => h3 h.2.2.2.1))
    clear h1 h2 h3
    go_wp2_with fail
    go_ret
    exact ⟨congrArg (fun b => Ending.returned (.string b)) HR.out.symm, ST1.out.low⟩
  have b3 : (r.ac != 1) = false := by simp; omega
  by_cases h4 : n = 0
  case neg =>
    have b4 : decide ((0 : Int) < (n : Int)) = true := by simp; omega
    have b4' : 0 < n := by omega
    have HR := Lib.hid (HNO.out (fun h => h4 (by rw [HN.out]; exact h.2.2.2.2.1)))
    clear h1 h2 h3 h4
    go_wp2_with fail
    go_ret
    exact ⟨congrArg (fun b => Ending.returned (.string b)) HR.out.symm, ST1.out.low⟩
  by_cases h5 : r.ca = 4294967295
  case neg =>
    have b5 : ((r.ca : Int) != 4294967295) = true := by simp; omega
    have HR := Lib.hid (HNO.out (fun h => h5 h.2.2.2.2.2))
    clear h1 h2 h3 h5
    subst h4
    go_wp2_with fail
    go_ret
    exact ⟨congrArg (fun b => Ending.returned (.string b)) HR.out.symm, ST1.out.low⟩
  have b5 : ((r.ca : Int) != 4294967295) = false := by simp; omega
  subst h4
  have HR := Lib.hid (short_yes HC0.out ⟨h1, h2, h3, HN.out.symm, h5⟩)
  have HWW := Lib.hid (show (r.wa = 1 ∨ r.wa = 2) ∧ r.pa.size ≤ 128 ∧ 1 ≤ r.pe ∧ r.pe ≤ 15 by
    rcases HWT.out with ⟨h, _⟩ | ⟨h, _, _, h8, h9, h10⟩
    · exact absurd h h1
    · exact ⟨h, h8, h9, h10⟩)
  have HQT := Lib.hid (fun W => rquoteR r.pa W (by have := HWW.out.2.1; unfold maxLen; omega))
  have HLT := Lib.hid (fun W => rperms r.pe ⟨by have := HWW.out.2.2.1; omega, HWW.out.2.2.2⟩ W)
  have HRK := Lib.hid (fun WW => rkey r A 0 c hke WW)
  have hkt := keyT_size r.ke hke
  have hQ : (quoteS r.pa).size ≤ 1300 := quoteS_leF r.pa (by have := HWW.out.2.1; omega)
  have hL : (permS r.pe).size ≤ 4 := by rw [permS_bits, ← permK_all]; exact permK_size _ _ _ _ _
  have HF := Lib.hid (show (r.wa = 1 → flagW r.wa ++ ⟨#[32]⟩ = ⟨#[45, 119, 32]⟩) ∧ (r.wa = 2 → flagW r.wa ++ ⟨#[32]⟩ = ⟨#[45, 116, 32]⟩) from ⟨fun h => by unfold flagW; rw [if_neg (by omega)]; rfl, fun h => by unfold flagW; rw [if_pos h]; rfl⟩)
  have hF : (flagW r.wa ++ (⟨#[32]⟩ : ByteArray)).size ≤ 3 := by
    rcases HWW.out.1 with h | h
    · rw [HF.out.1 h]; decide
    · rw [HF.out.2 h]; decide
  have HFIN := Lib.hid ((short_text2 r (flagW r.wa) rfl).trans HR.out.symm)
  clear HC0 HNO HWT h1 h2 h3 h5 HR
  generalize flagW r.wa ++ (⟨#[32]⟩ : ByteArray) = F at *
  go_upto_if 35 with (fail)
  go_cut [3] (fun v wx => RSt w wx r (.slice A 0 c) v F)
  case first =>
    rcases HWW.out.1 with h1 | h1
    · have d1 : (r.wa == 2) = false := by simp; omega
      have HF1 := Lib.hid (HF.out.1 h1)
      clear h1
      go_wp2_with fail
      go_meet
      exact ⟨congrArg Value.string HF1.out.symm, ST1.out.g, ST1.out.low⟩
    · have d1 : (r.wa == 2) = true := by simp; omega
      have HF1 := Lib.hid (HF.out.2 h1)
      clear h1
      go_wp2_with fail
      go_meet
      exact ⟨congrArg Value.string HF1.out.symm, ST1.out.g, ST1.out.low⟩
  case rest =>
    have ST := Lib.hid hcut
    obtain rfl := hcut.v
    clear hcut c0 c1 c2 c3 c4 b1 b2 b3 b5 HF HWW
    generalize quoteS r.pa = Q at *
    generalize permS r.pe = L at *
    generalize keyT r.ke = KT at *
    go_upto_region 6 with (fail)
    have st0 := ST.out.below (Below.refl _ _).drew
    refine wp_region_held_drew (S := (fun w' => RulB w' w.heap.size r (.slice A 0 c))) (by kernel_rfl) st0.g (fun hHeld => ?_)
    refine wpAnyH_take (i := 0) (v := ?_) rfl (by kernel_rfl) (by kernel_rfl) (by kernel_rfl) (fun _ _ _ h => h) (Or.inl ⟨by kernel_rfl, ?_⟩) hHeld ?_
    rotate_left
    · intro w hSw
      go_simp
      first | (with_reducible rfl) | (rw [if_neg (by first | omega | (simp only [ByteArray.size_append]; omega) | (simp; omega))])
    refine wpAnyH_take (i := 1) (v := ?_) rfl (by kernel_rfl) (by kernel_rfl) (by kernel_rfl) (fun _ _ _ h => h) (Or.inl ⟨by kernel_rfl, ?_⟩) hHeld ?_
    rotate_left
    · intro w hSw
      go_simp
      first | (with_reducible rfl) | (rw [if_neg (by first | omega | (simp only [ByteArray.size_append]; omega) | (simp; omega))])
    refine wpAnyH_take (i := 6) (v := ?_) rfl (by kernel_rfl) (by kernel_rfl) (by kernel_rfl) (fun _ _ _ h => h) (Or.inl ⟨by kernel_rfl, ?_⟩) hHeld ?_
    rotate_left
    · intro w hSw
      go_simp
      first | (with_reducible rfl) | (rw [if_neg (by first | omega | (simp only [ByteArray.size_append]; omega) | (simp; omega))])
    refine wpAnyH_take (i := 2) (v := ?_) rfl (by kernel_rfl) (by kernel_rfl) (by kernel_rfl) (fun _ _ _ h => h) (Or.inl ⟨by kernel_rfl, ?_⟩) hHeld ?_
    rotate_left
    · intro w hSw
      have k5 := RulB.c5 hSw
      go_simp
      first | (with_reducible rfl) | (rw [if_neg (by first | omega | (simp only [ByteArray.size_append]; omega) | (simp; omega))])
    refine wpAnyH_take (i := 7) (v := ?_) rfl (by kernel_rfl) (by kernel_rfl) (by kernel_rfl) (fun _ _ _ h => h) (Or.inl ⟨by kernel_rfl, ?_⟩) hHeld ?_
    rotate_left
    · intro w hSw
      have k6 := RulB.c6 hSw
      go_simp
      first | (with_reducible rfl) | (rw [if_neg (by first | omega | (simp only [ByteArray.size_append]; omega) | (simp; omega))])
    refine wpAnyH_take (i := 10) (v := ?_) rfl (by kernel_rfl) (by kernel_rfl) (by kernel_rfl) (fun _ _ _ h => h) (Or.inl ⟨by kernel_rfl, ?_⟩) hHeld ?_
    rotate_left
    · intro w hSw
      have k0 := RulB.c0 hSw
      have k1 := RulB.c1 hSw
      have k2 := RulB.c2 hSw
      have k3 := RulB.c3 hSw
      have k4 := RulB.c4 hSw
      have k5 := RulB.c5 hSw
      have k6 := RulB.c6 hSw
      have k7 := RulB.c7 hSw
      go_simp
      first | (with_reducible rfl) | (rw [if_neg (by first | omega | (simp only [ByteArray.size_append]; omega) | (simp; omega))])
    refine wpAnyH_ready (rs := [3]) (by kernel_rfl) (by simp) ?_
    refine AllReadyH.cons rfl (fun K hK => ?_) AllReadyH.nil
    go_simp
    go_at_call 38
    refine (HQT.out _).mono ?_
    rintro e wq ⟨rfl, hb⟩
    have stq := st0.below hb
    clear hb
    go_simp
    refine hK.out _ _ stq.g (fun hHeld => ?_)
    clear hK K
    refine wpAnyH_take (i := 4) (v := ?_) rfl (by kernel_rfl) (by kernel_rfl) (by kernel_rfl) (fun _ _ _ h => h) (Or.inl ⟨by kernel_rfl, ?_⟩) hHeld ?_
    rotate_left
    · intro w hSw
      go_simp
      first | (with_reducible rfl) | (rw [if_neg (by first | omega | (simp only [ByteArray.size_append]; omega) | (simp; omega))])
    refine wpAnyH_take (i := 5) (v := ?_) rfl (by kernel_rfl) (by kernel_rfl) (by kernel_rfl) (fun _ _ _ h => h) (Or.inl ⟨by kernel_rfl, ?_⟩) hHeld ?_
    rotate_left
    · intro w hSw
      go_simp
      first | (with_reducible rfl) | (rw [if_neg (by first | omega | (simp only [ByteArray.size_append]; omega) | (simp; omega))])
    refine wpAnyH_ready (rs := [8]) (by kernel_rfl) (by simp) ?_
    refine AllReadyH.cons rfl (fun K hK => ?_) AllReadyH.nil
    go_simp
    go_at_call 39
    refine (HLT.out _).mono ?_
    rintro e wl ⟨rfl, rfl⟩
    go_simp
    refine hK.out _ _ hHeld (fun hHeld => ?_)
    clear hK K
    refine wpAnyH_take (i := 9) (v := ?_) rfl (by kernel_rfl) (by kernel_rfl) (by kernel_rfl) (fun _ _ _ h => h) (Or.inl ⟨by kernel_rfl, ?_⟩) hHeld ?_
    rotate_left
    · intro w hSw
      go_simp
      first | (with_reducible rfl) | (rw [if_neg (by first | omega | (simp only [ByteArray.size_append]; omega) | (simp; omega))])
    refine wpAnyH_ready (rs := [11]) (by kernel_rfl) (by simp) ?_
    refine AllReadyH.cons rfl (fun K hK => ?_) AllReadyH.nil
    go_simp
    go_at_call 40
    refine (HRK.out _).mono ?_
    rintro e wk ⟨rfl, hb⟩
    have stk := stq.below hb
    clear hb
    go_simp
    refine hK.out _ _ stk.g (fun hHeld => ?_)
    clear hK K
    refine wpAnyH_take (i := 12) (v := ?_) rfl (by kernel_rfl) (by kernel_rfl) (by kernel_rfl) (fun _ _ _ h => h) (Or.inl ⟨by kernel_rfl, ?_⟩) hHeld ?_
    rotate_left
    · intro w hSw
      go_simp
      first | (with_reducible rfl) | (rw [if_neg (by first | omega | (simp only [ByteArray.size_append]; omega) | (simp; omega))])
    refine wpAnyH_ready (rs := [13]) (by kernel_rfl) (by simp) ?_
    refine AllReadyH.cons rfl (fun K hK => ?_) AllReadyH.nil
    go_simp
    refine hK.out _ _ hHeld (fun hHeld => ?_)
    clear hK K
    refine wpAnyH_done (by kernel_rfl) ?_ _
    go_wp2_with fail
    go_ret
    exact ⟨congrArg (fun b => Ending.returned (.string b)) HFIN.out, stk.low⟩
end Go.Proofs.YtbbihfafkpniiaaGreatDoor
/- The walk of the law RuleBack. -/
namespace Go.Proofs.YtbbihfafkpniiaaGreatDoor
open Go.RowKit
theorem parse_text {r q : Rul} {er : Int} (hg : GoodR r) (h : RIs (textR r) q er) : q = r ∧ er = 0 := h.unique (.inl ⟨rfl, hg, .inl rfl⟩)
theorem parse_short {r q : Rul} {er : Int} (hs : shortB r = true) (hg : GoodR r) (h : RIs (shortT r) q er) : q = r ∧ er = 0 := h.unique (.inl ⟨rfl, hg, .inr ⟨hs, rfl⟩⟩)
theorem text_le {r : Rul} (hg : GoodR r) : (textR r).size ≤ 100000 := by
  have : (textR r).size ≤ 70000 := text_pre hg (restR r) [] (by simp)
  omega
theorem short_le {r : Rul} (hs : shortB r = true) : (shortT r).size ≤ 100000 := by
  obtain ⟨a1, a2, _⟩ := shortB_spec hs
  rcases watch_ok (checkR_zero a1) with ⟨z, _⟩ | ⟨_, _, _, z4, z5, z6⟩
  · exact absurd z a2
  have hke := (checkR_zero a1).key
  have hp := quoteS_leF r.pa (by omega)
  have hk := quoteS_leF r.ke (by omega)
  have hpe : (permS r.pe).size ≤ 4 := by
    have H : ∀ k : Fin 16, (permS (k.val : Int)).size ≤ 4 := by decide +kernel
    have := H ⟨r.pe.toNat, by omega⟩
    rwa [show (((⟨r.pe.toNat, by omega⟩ : Fin 16).val : Nat) : Int) = r.pe from by show ((r.pe.toNat : Nat) : Int) = r.pe; omega] at this
  have := catW_size 1300 (restW r) (flagW r.wa) (fun t ht => by
    unfold restW keyW at ht
    split at ht <;> simp at ht
    · rcases ht with rfl | rfl | rfl
      · omega
      · show 2 ≤ 1300; omega
      · omega
    · rcases ht with rfl | rfl | rfl | rfl | rfl
      · omega
      · show 2 ≤ 1300; omega
      · omega
      · show 2 ≤ 1300; omega
      · omega)
  have hl : (restW r).length ≤ 5 := by unfold restW keyW; split <;> simp
  have hf : (flagW r.wa).size = 2 := by unfold flagW; split <;> rfl
  unfold shortT
  have : (restW r).length * 1301 ≤ 5 * 1301 := Nat.mul_le_mul_right _ hl
  omega
theorem short_ne {r : Rul} : (shortT r).toList.isEmpty = false := by
  have h : shortT r ≠ ⟨#[]⟩ := fun e => by
    have e2 := congrArg (fun s : ByteArray => s.data.toList.length) e
    unfold shortT at e2
    simp only [catW_list, List.length_append] at e2
    have : (flagW r.wa).data.toList.length = 2 := by unfold flagW; split <;> rfl
    rw [this] at e2
    simp at e2
  have := str_ne h
  rw [show (⟨#[]⟩ : ByteArray).toList = [] by decide +kernel] at this
  cases hl : (shortT r).toList with
  | nil => rw [hl] at this; cases this
  | cons a l => rfl
/-- A rule that was read, in a block of the law's own. -/
structure ReB (wr : World) (gq : Nat) (r : Rul) (U : Option Addr) (m d : Nat) : Prop where
  x : RulB wr gq r (.slice U m d)
  t : TestsAt wr wr.heap.size U r.ts
theorem ReB.below {wr w' : World} {gq : Nat} {r : Rul} {U : Option Addr} {m d : Nat} (h : ReB wr gq r U m d) (hb : Below wr.heap.size wr w') : ReB w' gq r U m d := ⟨Blk.below h.x hb, (h.t.keep hb (Nat.le_refl _)).more hb.size⟩
theorem ReB.new {w : World} {r : Rul} {U : Option Addr} {m d : Nat} (ht : TestsAt w w.heap.size U r.ts) : ReB (w.alloc (.cells (rulC r (.slice U m d)) 26)) w.heap.size r U m d := by
  have hb : Below w.heap.size w (w.alloc (.cells (rulC r (.slice U m d)) 26)) := (Below.refl _ _).alloc (Nat.le_refl _) _
  exact ⟨Blk.new w _ _, (ht.keep hb (Nat.le_refl _)).more hb.size⟩
theorem eq_self {r : Rul} {y : Bool} (h : y = true ↔ r = r) : y = true := h.2 rfl
attribute [local irreducible] checkR fmtR textR shortT shortB
set_option maxRecDepth 100000 in
set_option maxHeartbeats 8000000 in
theorem ruleBack_walk (w : World) (A : Option Addr) (n c : Nat) (hn : (n : Int) ≤ 9223372036854775807)
    (hl : ∀ k, k < n → ∃ (ad : Addr) (z : Int), A = some ad ∧ ad.block < w.heap.size ∧ w.cell? (ad.add k) = some (.int .i64 z) ∧ -9223372036854775808 ≤ z ∧ z ≤ 9223372036854775807) (hG : RGlob w) (hE : Env w) :
    Calls Tryz.prog 8 #[.slice A n c] w fun e w' => e = .returned (.bool true) ∧ Below w.heap.size w w' := by
  have HL := Lib.hid hl
  have HN := Lib.hid hn
  have HGL := Lib.hid (fun (W : World) (h : Below w.heap.size w W) => hG.below h)
  have HEL := Lib.hid (fun (W : World) (h : Below w.heap.size w W) => hE.below h)
  have HAW := Lib.hid (fun (W : World) (h : Below w.heap.size w W) => awakeR W (hG.below h) (hE.below h))
  clear hl hn hG hE
  go_enter Tryz.func8, Tryz.ntmps8
  go_wp2_with fail
  refine (src_new _ A n c HN.out HL.out).mono ?_
  rintro e w1 ⟨rfl, hs1, hb1⟩
  have HLT1 := Lib.hid (src_lt hs1)
  have HS1 := Lib.hid hs1
  have HB1 := Lib.hid hb1
  clear hs1 hb1
  go_wp2_with fail
  refine (src_good _ w.heap.size w.heap.size 0 HS1.out (by omega)).mono ?_
  rintro e w2 ⟨r, T, tn, tc, rfl, htn, htl, hm, hca, hown, hs, hg⟩
  have st := lr_new HB1.out HLT1.out hs hg hown hm htn htl
  have HGR := Lib.hid (show GoodR r from ⟨hca, st.num⟩)
  have ST0 := Lib.hid st
  clear htn htl hm hca hown hs hg HS1 HB1 HLT1 st
  have HFM := Lib.hid (fun (W : World) (h : LRSt w W w2.heap.size (0 + 1600) r (.slice T tn tc)) => vformatR_ok r T tn tc h.at.1 HGR.out W h.at.2 (HGL.out W h.low))
  have HPA := Lib.hid (fun (W : World) (h : LRSt w W w2.heap.size (0 + 1600) r (.slice T tn tc)) => vparse (textR r) (text_le HGR.out) W (HGL.out W h.low) (HEL.out W h.low))
  have HPS := Lib.hid (fun (hs : shortB r = true) (W : World) (h : LRSt w W w2.heap.size (0 + 1600) r (.slice T tn tc)) => vparse (shortT r) (short_le hs) W (HGL.out W h.low) (HEL.out W h.low))
  have HRS := Lib.hid (fun (W : World) (h : LRSt w W w2.heap.size (0 + 1600) r (.slice T tn tc)) => rshortS r T tn tc h.at.1 h.siz W h.at.2)
  go_wp2_with ((with_reducible refine load_blk ?_ 26 (.tmp 4) ?_ ST0.out.cb ?_ _ Tryz.underlying26 ?_ ?_ ?_); (iterate 4 rfl); exact rul_sz _ _)
  refine (HFM.out _ ST0.out).mono ?_
  rintro e w3 ⟨rfl, hb3⟩
  have ST1 := Lib.hid (ST0.out.below hb3)
  clear hb3 ST0
  go_wp2_with fail
  refine (HPA.out _ ST1.out).mono ?_
  rintro e w4 ⟨q, U, un, uc, er, rfl, hun, hri, htq, hb4⟩
  obtain ⟨rfl, rfl⟩ := parse_text HGR.out hri
  have ST2 := Lib.hid ((ST1.out.below hb4).alloc (.cells (rulC q (.slice U un uc)) 26))
  have RB2 := Lib.hid (ReB.new (m := un) (d := uc) htq)
  have HUN := Lib.hid hun
  clear hb4 ST1 hri htq hun
  have HEQ := Lib.hid (fun (W : World) (h : LRSt w W w2.heap.size (0 + 1600) q (.slice T tn tc)) (k : ReB W w4.heap.size q U un uc) => requalR q q T U tn un tc uc h.at.1 HUN.out (by have := h.at.1; have := h.siz.ln; omega) W h.at.2 k.t)
  have HEV := Lib.hid (fun (W : World) (h : LRSt w W w2.heap.size (0 + 1600) q (.slice T tn tc)) (k : ReB W w4.heap.size q U un uc) => vequalR q q T U tn un tc uc h.at.1 HUN.out (by have := h.at.1; have := h.siz.ln; omega) W h.at.2 k.t)
  go_wp2_with (first | ((with_reducible refine load_blk_gR ?_ 26 (.tmp 4) ?_ ST2.out.cb ?_ _ Tryz.underlying26 ?_ ?_ ?_); (iterate 4 rfl); exact rul_sz _ _) | ((with_reducible refine load_blk_gR ?_ 26 (.tmp 7) ?_ RB2.out.x ?_ _ Tryz.underlying26 ?_ ?_ ?_); (iterate 4 rfl); exact rul_sz _ _))
  refine (HEQ.out _ ST2.out RB2.out).mono ?_
  rintro e w5 ⟨y, rfl, hy, hb5⟩
  obtain rfl := eq_self hy
  have ST3 := Lib.hid (ST2.out.below hb5)
  have RB3 := Lib.hid (RB2.out.below hb5)
  clear hb5 hy ST2 RB2
  go_wp2_with (first | ((with_reducible refine load_blk_gR ?_ 26 (.tmp 4) ?_ ST3.out.cb ?_ _ Tryz.underlying26 ?_ ?_ ?_); (iterate 4 rfl); exact rul_sz _ _) | ((with_reducible refine load_blk_gR ?_ 26 (.tmp 7) ?_ RB3.out.x ?_ _ Tryz.underlying26 ?_ ?_ ?_); (iterate 4 rfl); exact rul_sz _ _))
  refine (HEV.out _ ST3.out RB3.out).mono ?_
  rintro e w6 ⟨y, rfl, hy, hb6⟩
  obtain rfl := eq_self hy
  have ST4 := Lib.hid (ST3.out.below hb6)
  clear hb6 hy ST3 RB3 HEQ HEV HUN
  go_wp2_with ((with_reducible refine load_blk_gR ?_ 26 (.tmp 4) ?_ ST4.out.cb ?_ _ Tryz.underlying26 ?_ ?_ ?_); (iterate 4 rfl); exact rul_sz _ _)
  refine (HRS.out _ ST4.out).mono ?_
  rintro e w7 ⟨rfl, hb7⟩
  have ST5 := Lib.hid (ST4.out.below hb7)
  clear hb7 ST4
  by_cases hsb : shortB q = true
  · have hse : shortS q = shortT q := if_pos hsb
    have t1 := short_ne (r := q)
    rw [hse]
    have HPP := Lib.hid (HPS.out hsb)
    have HSB := Lib.hid hsb
    clear hse hsb HPS
    go_wp2_with fail
    refine (HPP.out _ ST5.out).mono ?_
    rintro e w8 ⟨x, V, vn, vc, er, rfl, hvn, hri, htx, hb8⟩
    obtain ⟨rfl, rfl⟩ := parse_short HSB.out HGR.out hri
    have ST6 := Lib.hid ((ST5.out.below hb8).alloc (.cells (rulC x (.slice V vn vc)) 26))
    have RB6 := Lib.hid (ReB.new (m := vn) (d := vc) htx)
    have HVN := Lib.hid hvn
    clear hb8 ST5 hri htx hvn t1
    have HEQ := Lib.hid (fun (W : World) (h : LRSt w W w2.heap.size (0 + 1600) x (.slice T tn tc)) (k : ReB W w8.heap.size x V vn vc) => requalR x x T V tn vn tc vc h.at.1 HVN.out (by have := h.at.1; have := h.siz.ln; omega) W h.at.2 k.t)
    go_wp2_with (first | ((with_reducible refine load_blk_gR ?_ 26 (.tmp 4) ?_ ST6.out.cb ?_ _ Tryz.underlying26 ?_ ?_ ?_); (iterate 4 rfl); exact rul_sz _ _) | ((with_reducible refine load_blk_gR ?_ 26 (.tmp 10) ?_ RB6.out.x ?_ _ Tryz.underlying26 ?_ ?_ ?_); (iterate 4 rfl); exact rul_sz _ _))
    refine (HEQ.out _ ST6.out RB6.out).mono ?_
    rintro e w9 ⟨y, rfl, hy, hb9⟩
    obtain rfl := eq_self hy
    have ST7 := Lib.hid (ST6.out.below hb9)
    clear hb9 hy ST6 RB6
    go_wp2_with fail
    refine (HAW.out _ ST7.out.low).mono ?_
    rintro e w11 ⟨rfl, hb11⟩
    have HB := Lib.hid (below_then ST7.out.low hb11)
    clear hb11
    go_wp2_with fail
    go_ret
    exact ⟨rfl, HB.out⟩
  · have hse : shortS q = ⟨#[]⟩ := if_neg hsb
    rw [hse]
    have t1 : (⟨#[]⟩ : ByteArray).toList.isEmpty = true := by decide +kernel
    clear hse hsb HPS
    go_wp2_with fail
    refine (HAW.out _ ST5.out.low).mono ?_
    rintro e w11 ⟨rfl, hb11⟩
    have HB := Lib.hid (below_then ST5.out.low hb11)
    clear hb11
    go_wp2_with fail
    go_ret
    exact ⟨rfl, HB.out⟩
end Go.Proofs.YtbbihfafkpniiaaGreatDoor
/- The walk of RuleBack, with what the row lists. -/

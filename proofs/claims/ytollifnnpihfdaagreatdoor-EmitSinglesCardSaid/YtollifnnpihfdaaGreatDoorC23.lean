/- Texts of one proof, laid together. -/
import Derived.Test.YtollifnnpihfdaaGreatDoorC22
import Derived.Deep.DeepCutAuto
import Derived.Deep.CutBlock
/- Format of the program's rules returns fmtR: the walk. -/
namespace Go.Proofs.YtollifnnpihfdaaGreatDoor
open Go.RowKit
theorem good_siz {r : Rul} (h : GoodR r) : SizR r := by
  have hc := checkR_zero h.ok
  refine ⟨?_, ?_, by have := hc.key; omega, fun t ht => ?_, by have := hc.len; omega⟩
  · rcases hc.ca with h1 | h1 <;> omega
  · rcases watch_ok hc with ⟨_, h1, _⟩ | ⟨_, _, _, h1, _⟩
    · rw [h1]; decide
    · omega
  · have := tx_small (firstE_all hc.tst t ht)
    unfold maxLen; omega
theorem vjoinO (w : World) (base : Nat) (v : Value) (x : ByteArray) (L : List ByteArray) (hown : OwnS w base v (x :: L)) (hL : L.length ≤ 1000) (hx : x.size ≤ 100000) (hs : ∀ s ∈ L, s.size ≤ 100000) :
    Calls Tryz.prog 124 #[v, .string ⟨#[32]⟩] w fun e w' => e = .returned (.string (catW x L)) ∧ Below w.heap.size w w' := by
  rcases Joins.ownsRow_forms hown.out with ⟨rfl, h0⟩ | ⟨g, cap, rfl⟩
  · simp at h0
  · exact vjoinW w base g cap x L hown hL hx hs
theorem fmt_bad {r : Rul} (h : checkR r ≠ 0) : fmtR r = ⟨#[]⟩ := by unfold fmtR; rw [if_neg h]
theorem fmt_ok {r : Rul} (h : checkR r = 0) : fmtR r = textR r := by unfold fmtR; rw [if_pos h]
theorem retSI {a b : ByteArray} {m n : Int} (h : a = b) (k : m = n) : Ending.returned (.tuple #[.string a, .int .i64 m]) = .returned (.tuple #[.string b, .int .i64 n]) := by rw [h, k]
attribute [local irreducible] checkF watchB callsB firstE checkR cleanB callsOk textR headW maskS quoteS testS anyE permS catW listN actN
set_option maxRecDepth 100000 in
set_option maxHeartbeats 4000000 in
theorem vformatR_bad (r : Rul) (A : Option Addr) (n c : Nat) (hn : n = r.ts.length) (hz : SizR r) (w : World) (hT : TestsAt w w.heap.size A r.ts) (h0 : checkR r ≠ 0) :
    Calls Tryz.prog 73 #[rulV r (.slice A n c)] w fun e w' => e = .returned (.tuple #[.string (fmtR r), .int .i64 (checkR r)]) ∧ Below w.heap.size w w' := by
  obtain ⟨HG0, HB0⟩ := rul_box w r (.slice A n c)
  have HV := Lib.hid (vcheckR r A c n hn hz (w.alloc (.cells (rulC r (.slice A n c)) 90)) ((hT.keep HB0 (Nat.le_refl _)).more HB0.size))
  have bn := ret_ne h0
  have HF := Lib.hid (fmt_bad h0)
  have HB := Lib.hid HB0
  clear HG0 HB0 hT h0 hz hn
  go_enter Tryz.func73, Tryz.ntmps73
  go_wp2_with fail
  refine HV.out.mono ?_
  rintro e w1 ⟨rfl, hb1⟩
  go_wp2_with fail
  go_ret2
  exact ⟨retSI HF.out.symm rfl, HB.out.trans (hb1.mono HB.out.size)⟩
set_option maxRecDepth 100000 in
set_option maxHeartbeats 16000000 in
theorem vformatR_ok (r : Rul) (A : Option Addr) (n c : Nat) (hn : n = r.ts.length) (hg : GoodR r) (w : World) (hT : TestsAt w w.heap.size A r.ts) (hG : RGlob w) :
    Calls Tryz.prog 73 #[rulV r (.slice A n c)] w fun e w' => e = .returned (.tuple #[.string (textR r), .int .i64 0]) ∧ Below w.heap.size w w' := by
  obtain ⟨HG0, HB0⟩ := rul_box w r (.slice A n c)
  have HV := Lib.hid (vcheckR r A c n hn (good_siz hg) (w.alloc (.cells (rulC r (.slice A n c)) 90)) ((hT.keep HB0 (Nat.le_refl _)).more HB0.size))
  rw [hg.ok] at HV
  have hc := checkR_zero hg.ok
  have HT := Lib.hid hT
  have HE := Lib.hid (fun (W : World) (h : Below w.heap.size w W) => hG.below h)
  have HN := Lib.hid hn
  have HGO := Lib.hid hg
  have hln : n ≤ 8 := by rw [hn]; exact hc.len
  have HBX := Lib.hid HB0
  have HGX := Lib.hid HG0
  have l0 := hc.li.1
  have l1 := hc.li.2
  have a0 : 1 ≤ r.ac := by have := hc.ac; omega
  have a1 : r.ac ≤ 2 := by have := hc.ac; omega
  have HCA := Lib.hid hc.ca
  have HWT := Lib.hid (watch_ok hc)
  have hke : r.ke.size ≤ 31 := hc.key
  have HSP := Lib.hid (wordsR_split r)
  have HTX := Lib.hid (show textR r = catW fA (restR r) by unfold textR; rfl)
  have HSZ := Lib.hid (rest_size hg)
  clear HG0 HB0 hT hG hn hg hc
  go_enter Tryz.func73, Tryz.ntmps73
  go_wp2_with fail
  refine HV.out.mono ?_
  rintro e w1 ⟨rfl, hb1⟩
  have HB1 := Lib.hid (HBX.out.trans (hb1.mono HBX.out.size))
  have hg1 := Blk.below HGX.out hb1
  have HG1 := Lib.hid hg1
  have q0 := RulB.c0 hg1
  have q1 := RulB.c1 hg1
  have ca := (HE.out _ HB1.out).ac.at (k := r.ac.toNat) (by omega)
  have cl := (HE.out _ HB1.out).li.at (k := r.li.toNat) (by omega)
  have i0 : (0 : Int) ≤ r.ac := by omega
  have i1 : r.ac < 3 := by omega
  have i2 : (0 : Int) ≤ r.li := by omega
  have i3 : r.li < 6 := by omega
  have z1 : (actN r.ac.toNat).size ≤ 20 := by have := head_size r; unfold headW at this; rw [ByteArray.size_append, ByteArray.size_append] at this; omega
  have z2 : (listN r.li.toNat).size ≤ 20 := by have := head_size r; unfold headW at this; rw [ByteArray.size_append, ByteArray.size_append] at this; omega
  have HHD := Lib.hid (show actN r.ac.toNat ++ ⟨#[44]⟩ ++ listN r.li.toNat = headW r by unfold headW; rfl)
  clear hb1 hg1
  generalize actN r.ac.toNat = X at *
  generalize listN r.li.toNat = Y at *
  go_wp2_with fail
  have zz1 : ¬ (9223372036854775807 < X.size + 1) := by omega
  have zz2 : ¬ (9223372036854775807 < X.size + 1 + Y.size) := by omega
  have zz3 : ¬ (9223372036854775807 < (X ++ (⟨#[44]⟩ : ByteArray)).size + Y.size) := by rw [ByteArray.size_append]; exact zz2
  go_still_tail 10, (by kernel_rfl)
  clear zz1 zz2 zz3
  go_upto_region 5 with (fail)
  have st2 : FSt w ((w1.alloc (.cells #[.string fA, .string (X ++ ⟨#[44]⟩ ++ Y)] 9)).drew) r (.slice A n c) (.slice (some ⟨w1.heap.size, 0, none⟩) 2 2) [fA, headW r] := by
    rw [HHD.out]
    have h1 : FSt w (w1.alloc (.cells #[.string fA, .string (headW r)] 9)) r (.slice A n c) (.slice (some ⟨w1.heap.size, 0, none⟩) 2 2) [fA, headW r] :=
      ⟨Blk.alloc HG1.out _, OwnS.two w1 HG1.out.lt fA (headW r), HB1.out.alloc HB1.out.size _⟩
    exact h1.drew
  unfold fA at st2
  generalize (w1.alloc (Obj.cells #[Value.string { data := #[45, 97] }, Value.string (X ++ { data := #[44] } ++ Y)] 9)).drew = w2 at *
  generalize hv2 : (Value.slice (some { block := w1.heap.size, off := 0 }) 2 2) = v2 at *
  have ST2 := Lib.hid st2
  have q0 := RulB.c0 st2.g
  have q2 := RulB.c2 st2.g
  clear st2 hv2 ca cl z1 z2 q1 HHD HG1 HB1
  have HCB := Lib.hid (fun W => vhasCalls r.li W)
  have HMF := Lib.hid (fun W => vmfmt r.ca W (good_siz HGO.out).ca)
  go_upto_if 29 with ((go_at_call 119; refine (HCB.out _).mono ?_; rintro e w3 ⟨rfl, rfl⟩))
  go_cut [5] (fun v wx => FSt w wx r (.slice A n c) v (fA :: headW r :: callW r))
  case first =>
    rcases HCA.out with ⟨hcb, _, _⟩ | ⟨hcb, _⟩
    · have HCW := Lib.hid (show callW r = [fS, maskS r.ca] by unfold callW; rw [if_pos hcb])
      rw [hcb]
      clear hcb
      go_wp2_with fail
      refine (HMF.out _).mono ?_
      rintro e w3 ⟨rfl, hb3⟩
      have st3 := ST2.out.below hb3
      have hsz := st3.lt
      clear hb3
      go_wp2_with (at_builtin; refine wpList_append_strs rfl (.tmp 30) (.tmp 34) rfl (w.heap.size + 1) _ [fA, headW r] rfl (st3.own.alloc _) (w3.heap.size + 1) (some ⟨w3.heap.size, 0, none⟩) 2 2 [fS, maskS r.ca] rfl rfl (two_new_S w3 _ _ 9) (by simp) (by simp; omega) ?_; intro v4 w4 own4 hg4 hat4)
      have st4 := st3.app own4 hg4
      clear own4 hg4 hat4 st3
      go_wp2_with fail
      go_meet
      exact (by rw [HCW.out]; exact st4)
    · have HCW := Lib.hid (show callW r = [] by unfold callW; rw [if_neg (by rw [hcb]; decide)])
      rw [hcb]
      clear hcb
      go_wp2_with fail
      go_meet
      exact (by rw [HCW.out]; exact ST2.out)
  case rest =>
    have q3 := RulB.c3 hcut.g
    have ST := Lib.hid hcut
    have hcw : (callW r).length ≤ 2 := by unfold callW; split <;> simp
    clear hcut q0 q2 HCB HMF HCA ST2
    go_wp2_with fail
    clear q3
    go_loopw [5, 39] (fun v i wr => ∃ k : Nat, k ≤ n ∧ i = .int .i64 (k : Int) ∧ FSt w wr r (.slice A n c) v (fA :: headW r :: (callW r ++ testsW r.ts k))) (fun _ i _ => n - (intOf i).toNat)
    case atStart => exact ⟨0, Nat.zero_le _, rfl, by rw [testsW_zero, List.append_nil]; exact ST.out⟩
    case round =>
      obtain ⟨k, hk, rfl, hst⟩ := hrel
      clear ST
      have ST := Lib.hid hst
      have hwl : (fA :: headW r :: (callW r ++ testsW r.ts k)).length ≤ 30 := by
        have := testsW_len r.ts k (by rw [← HN.out]; exact hk)
        simp only [List.length_cons, List.length_append]; omega
      by_cases hlt : k < n
      · have hkl : k < r.ts.length := by rw [← HN.out]; exact hlt
        obtain ⟨ad, rfl, hadb, t0, t1, t2, t3, t4⟩ := (HT.out.keep hst.low (Nat.le_refl _)).cells hkl
        have HNX := Lib.hid (testsW_next hkl)
        have hck := firstE_all (checkR_zero HGO.out.ok).tst _ (List.getElem_mem hkl)
        have HI := Lib.hid (HGO.out.nums _ (List.getElem_mem hkl))
        have HXM := Lib.hid (show (r.ts[k]'hkl).tx.size ≤ maxLen by have := tx_small hck; unfold maxLen; omega)
        have HAN := Lib.hid (show anyE (r.ts[k]'hkl).fd (r.ts[k]'hkl).op (r.ts[k]'hkl).nu (r.ts[k]'hkl).tx (r.ts[k]'hkl).ot = 0 from any_of_chk hck)
        have HFL := Lib.hid (flag_tst (r.ts[k]'hkl))
        clear hck hst
        unfold Tst.txt at HNX
        generalize r.ts[k] = t at *
        obtain ⟨fd, op, nu, tx, ot⟩ := t
        simp only at t0 t1 t2 t3 t4 HI HXM HAN HFL HNX
        have st1 := ST.out.alloc (.cells (testC fd op nu tx ot) 85)
        have HB7 := Lib.hid (Blk.new wr (testC fd op nu tx ot) 85)
        have HE1 := Lib.hid (HE.out _ st1.low)
        have ST1 := Lib.hid st1
        have HFM := Lib.hid (vformatF fd op nu tx ot HI.out HXM.out (wr.alloc (.cells (testC fd op nu tx ot) 85)) HE1.out.fn HE1.out.fo HE1.out.tb HE1.out.pw)
        rw [HAN.out] at HFM
        clear st1 HE1
        go_wp2_with fail
        refine HFM.out.mono ?_
        rintro e w5 ⟨rfl, hb5⟩
        have st5 := ST1.out.below hb5
        have p4 := (test_cells (Blk.below HB7.out hb5)).2.2.2.2
        have hsz := st5.lt
        clear hb5 t0 t1 t2 t3 t4 HFM HB7 ST1
        generalize testS fd op nu tx ot = X at *
        by_cases hot : ot = 0
        · have b0 : (ot != 0) = false := by simpa using hot
          have HFF := Lib.hid (show (Part.tst ⟨fd, op, nu, tx, ot⟩).flag = fF by rw [HFL.out, if_neg (by simpa using hot)])
          rw [HFF.out] at HNX
          clear hot HFL HFF
          go_wp2_with (at_builtin; refine wpList_append_strs rfl (.tmp 54) (.tmp 57) rfl (w.heap.size + 1) _ (fA :: headW r :: (callW r ++ testsW r.ts k)) rfl (st5.own.alloc _) (w5.heap.size + 1) (some ⟨w5.heap.size, 0, none⟩) 2 2 [fF, X] rfl rfl (two_new_S w5 _ _ 9) (by have h := hwl; simp only [List.length_cons, List.length_nil] at h ⊢; omega) (by simp; omega) ?_; intro v6 w6 own6 hg6 hat6)
          have st6 := st5.app own6 hg6
          clear own6 hg6 hat6 st5 p4
          go_wp2_with fail
          go_roundw
          case rel => exact ⟨k + 1, by omega, by go_num, by rw [HNX.out]; simpa using st6⟩
          case measure => simp [intOf]; omega
        · have b0 : (ot != 0) = true := by simpa using hot
          have HFF := Lib.hid (show (Part.tst ⟨fd, op, nu, tx, ot⟩).flag = fC by rw [HFL.out, if_pos hot])
          rw [HFF.out] at HNX
          clear hot HFL HFF
          go_wp2_with (at_builtin; refine wpList_append_strs rfl (.tmp 54) (.tmp 57) rfl (w.heap.size + 1) _ (fA :: headW r :: (callW r ++ testsW r.ts k)) rfl (st5.own.alloc _) (w5.heap.size + 1) (some ⟨w5.heap.size, 0, none⟩) 2 2 [fC, X] rfl rfl (two_new_S w5 _ _ 9) (by have h := hwl; simp only [List.length_cons, List.length_nil] at h ⊢; omega) (by simp; omega) ?_; intro v6 w6 own6 hg6 hat6)
          have st6 := st5.app own6 hg6
          clear own6 hg6 hat6 st5 p4
          go_wp2_with fail
          go_roundw
          case rel => exact ⟨k + 1, by omega, by go_num, by rw [HNX.out]; simpa using st6⟩
          case measure => simp [intOf]; omega
      · have hkn : k = n := by omega
        subst hkn
        clear hst hlt
        have HW1 := Lib.hid (show fA :: headW r :: (callW r ++ testsW r.ts k) = fA :: headW r :: (callW r ++ testsW r.ts r.ts.length) by rw [HN.out])
        obtain ⟨W, hW⟩ : ∃ W, W = fA :: headW r :: (callW r ++ testsW r.ts k) := ⟨_, rfl⟩
        have HWW := Lib.hid (hW.trans HW1.out)
        rw [← hW] at ST hwl
        clear hW HW1
        have HQT := Lib.hid (fun W (h : Below w.heap.size w W) => vquoteR r.pa W (by have := (good_siz HGO.out).pa; unfold maxLen; omega) (HE.out _ h).tb)
        have HQK := Lib.hid (fun W (h : Below w.heap.size w W) => vquoteR r.ke W (by unfold maxLen; omega) (HE.out _ h).tb)
        have hkq : (quoteS r.ke).size ≤ 1300 := quoteS_leF r.ke (by omega)
        have c4 := RulB.c4 ST.out.g
        rcases HWT.out with ⟨h0, _, _⟩ | ⟨h12, _, _, hp, pe1, pe2⟩
        · have HPT := Lib.hid (show watchP r = [] by unfold watchP; rw [if_neg (by omega), if_neg (by omega)])
          have HFIN := Lib.hid (show fA :: restR r = W ++ keyW r.ke by rw [HSP.out, HWW.out, HPT.out]; simp [partW])
          have b1 : (r.wa == 1) = false := by simp; omega
          have b2 : (r.wa == 2) = false := by simp; omega
          clear h0 HPT HWW HQT HWT
          have c7 := RulB.c7 ST.out.g
          by_cases hkz : r.ke.size = 0
          · have ek := emptyF hkz
            have HLL := Lib.hid (show W = fA :: restR r by rw [HFIN.out]; unfold keyW; rw [if_pos hkz, List.append_nil])
            have HST2 := ST.out
            rw [HLL.out] at HST2
            have HJ := Lib.hid (vjoinO _ _ _ _ _ HST2.own (by have := HSZ.out.2; omega) (by decide) (fun s hs => by have := HSZ.out.1 s hs; omega))
            have HLW := Lib.hid HST2.low
            clear hkz HST2 HFIN
            go_wp2_with fail
            refine HJ.out.mono ?_
            rintro e w9 ⟨rfl, hb9⟩
            go_wp2_with fail
            go_ret2
            exact ⟨retSI HTX.out.symm rfl, below_then HLW.out hb9⟩
          · have ek := nonemptyF hkz
            have ek2 : r.ke.toList.isEmpty = false := by simpa using ek
            have HLL := Lib.hid (show W ++ [fK, quoteS r.ke] = fA :: restR r by rw [HFIN.out]; unfold keyW; rw [if_neg hkz])
            clear hkz HFIN
            go_wp2_with fail
            refine (HQK.out _ ST.out.low).mono ?_
            rintro e w8 ⟨rfl, hb8⟩
            have st8 := ST.out.below hb8
            have hsz := st8.lt
            clear hb8 c7
            go_wp2_with (at_builtin; refine wpList_append_strs rfl (.tmp 91) (.tmp 95) rfl (w.heap.size + 1) _ W rfl (st8.own.alloc _) (w8.heap.size + 1) (some ⟨w8.heap.size, 0, none⟩) 2 2 [fK, quoteS r.ke] rfl rfl (two_new_S w8 _ _ 9) (by simp only [List.length_cons, List.length_nil]; omega) (by simp; omega) ?_; intro v9 w9 own9 hg9 hat9)
            have st9 := st8.app own9 hg9
            rw [HLL.out] at st9
            have HJ := Lib.hid (vjoinO _ _ _ _ _ st9.own (by have := HSZ.out.2; omega) (by decide) (fun s hs => by have := HSZ.out.1 s hs; omega))
            have HLW := Lib.hid st9.low
            clear own9 hg9 hat9 st8 st9
            go_wp2_with fail
            refine HJ.out.mono ?_
            rintro e w10 ⟨rfl, hb10⟩
            go_wp2_with fail
            go_ret2
            exact ⟨retSI HTX.out.symm rfl, below_then HLW.out hb10⟩
        · have HLT := Lib.hid (fun W (h : Below w.heap.size w W) => vletters r.pe ⟨by omega, pe2⟩ W (HE.out _ h).pb)
          have hQ : (quoteS r.pa).size ≤ 1300 := quoteS_leF r.pa (by omega)
          have hL : (permS r.pe).size ≤ 4 := by rw [permS_bits, ← permK_all]; exact permK_size _ _ _ _ _
          have HWP := Lib.hid (show (r.wa = 1 → watchP r = [.fil r.pa, .prm r.pe]) ∧ (r.wa = 2 → watchP r = [.dir r.pa, .prm r.pe]) from ⟨fun h => by unfold watchP; rw [if_pos h], fun h => by unfold watchP; rw [if_neg (by omega), if_pos h]⟩)
          have HFI := Lib.hid (show fA :: restR r = W ++ (partW (watchP r) ++ keyW r.ke) by rw [HSP.out, HWW.out]; simp)
          have HPW := Lib.hid (show partW [Part.fil r.pa, Part.prm r.pe] = [fF, pathW ++ quoteS r.pa, fF, permW ++ permS r.pe] ∧ partW [Part.dir r.pa, Part.prm r.pe] = [fF, dirW ++ quoteS r.pa, fF, permW ++ permS r.pe] from ⟨rfl, rfl⟩)
          generalize quoteS r.pa = Q at *
          generalize permS r.pe = L at *
          rcases h12 with h1 | h2
          · have HFIN := Lib.hid (show fA :: restR r = (W ++ [fF, pathW ++ Q, fF, permW ++ L]) ++ keyW r.ke by rw [HFI.out, HWP.out.1 h1, HPW.out.1]; simp)
            have b1 : (r.wa == 1) = true := by simp; omega
            have b2 : (r.wa == 2) = false := by simp; omega
            clear h1 HWW HWT HWP HFI HPW
            go_upto_block 2 with (fail)
            clear c4
            go_cut [5] (fun v wx => ∃ M, FSt w wx r (.slice A k c) v M ∧ M = W ++ [fF, pathW ++ Q, fF, permW ++ L])
            case first =>
              go_upto_region 20 with (fail)
              refine wp_region_any (by kernel_rfl) ?_
              change wpAny _ _ _ _ _ _ _ (World.drew _)
              refine wpAny_take (i := 0) (v := ?_) rfl (by kernel_rfl) (by kernel_rfl) (by kernel_rfl) (fun _ _ _ h => h) (Or.inl ⟨by kernel_rfl, ?_⟩) ?_
              rotate_left
              · intro w
                go_simp
                try (with_reducible rfl)
              refine wpAny_take (i := 1) (v := ?_) rfl (by kernel_rfl) (by kernel_rfl) (by kernel_rfl) (fun _ _ _ h => h) (Or.inl ⟨by kernel_rfl, ?_⟩) ?_
              rotate_left
              · intro w
                go_simp
                try (with_reducible rfl)
              refine wpAny_take (i := 5) (v := ?_) rfl (by kernel_rfl) (by kernel_rfl) (by kernel_rfl) (fun _ _ _ h => h) (Or.inl ⟨by kernel_rfl, ?_⟩) ?_
              rotate_left
              · intro w
                go_simp
                try (with_reducible rfl)
              have st0 := ST.out.drew
              generalize wr.drew = w0 at *
              have c5 := RulB.c5 st0.g
              have c6 := RulB.c6 st0.g
              refine wpAny_ready (rs := [2, 6]) (by kernel_rfl) (by simp) ?_
              refine (AllReady.cons rfl (fun K hK => ?_) (AllReady.cons rfl (fun K hK => ?_) AllReady.nil))
              · go_simp
                refine hK _ _ ?_
                clear hK K
                refine wpAny_ready (rs := [3, 6]) (by kernel_rfl) (by simp) ?_
                refine (AllReady.cons rfl (fun K hK => ?_) (AllReady.cons rfl (fun K hK => ?_) AllReady.nil))
                · go_simp
                  go_at_call 122
                  refine (HQT.out _ st0.low).mono ?_
                  rintro e wq ⟨rfl, hbq⟩
                  have stq := st0.below hbq
                  have c5 := RulB.c5 stq.g
                  have c6 := RulB.c6 stq.g
                  clear hbq
                  go_simp
                  refine hK _ _ ?_
                  clear hK K
                  refine wpAny_take (i := 4) (v := ?_) rfl (by kernel_rfl) (by kernel_rfl) (by kernel_rfl) (fun _ _ _ h => h) (Or.inl ⟨by kernel_rfl, ?_⟩) ?_
                  rotate_left
                  · intro w
                    go_simp
                    first | (with_reducible rfl) | (rw [if_neg (by first | omega | (simp only [ByteArray.size_append]; omega) | (simp; omega))])
                  refine wpAny_ready (rs := [6]) (by kernel_rfl) (by simp) ?_
                  refine (AllReady.cons rfl (fun K hK => ?_) AllReady.nil)
                  go_simp
                  refine hK _ _ ?_
                  clear hK K
                  refine wpAny_ready (rs := [7]) (by kernel_rfl) (by simp) ?_
                  refine (AllReady.cons rfl (fun K hK => ?_) AllReady.nil)
                  go_simp
                  go_at_call 123
                  refine (HLT.out _ stq.low).mono ?_
                  rintro e wl ⟨rfl, rfl⟩
                  go_simp
                  refine hK _ _ ?_
                  clear hK K
                  refine wpAny_take (i := 8) (v := ?_) rfl (by kernel_rfl) (by kernel_rfl) (by kernel_rfl) (fun _ _ _ h => h) (Or.inl ⟨by kernel_rfl, ?_⟩) ?_
                  rotate_left
                  · intro w
                    go_simp
                    first | (with_reducible rfl) | (rw [if_neg (by first | omega | (simp only [ByteArray.size_append]; omega) | (simp; omega))])
                  refine wpAny_ready (rs := [9]) (by kernel_rfl) (by simp) ?_
                  refine AllReady.cons rfl (fun K hK => ?_) AllReady.nil
                  go_simp
                  refine hK _ _ ?_
                  clear hK K
                  refine wpAny_ready (rs := [10]) (by kernel_rfl) (by simp) ?_
                  refine AllReady.cons rfl (fun K hK => ?_) AllReady.nil
                  refine step_append_strs (by rfl) (.tmp 64) (.tmp 73) (by rfl) (w.heap.size + 1) _ W (by rfl) (stq.own.alloc _) (wq.heap.size + 1) (some ⟨wq.heap.size, 0, none⟩) 4 4 [fF, pathW ++ Q, fF, permW ++ L] (by rfl) rfl (by exact four_new_S wq _ _ _ _ 9) (by simp; omega) (by have := stq.lt; simp; omega) ?_
                  intro v5 w5 own5 hg5 hat5
                  have st5 := stq.app own5 hg5
                  clear own5 hg5 hat5
                  refine hK _ _ ?_
                  clear hK K
                  refine wpAny_ready (rs := [11]) (by kernel_rfl) (by simp) ?_
                  refine AllReady.cons rfl (fun K hK => ?_) AllReady.nil
                  go_simp
                  refine hK _ _ ?_
                  clear hK K
                  refine wpAny_done (by kernel_rfl) ?_ _
                  go_wp2_with fail
                  go_meet
                  exact ⟨_, st5, rfl⟩
                · go_simp
                  refine hK _ _ ?_
                  clear hK K
                  refine wpAny_ready (rs := [3]) (by kernel_rfl) (by simp) ?_
                  refine (AllReady.cons rfl (fun K hK => ?_) AllReady.nil)
                  go_simp
                  go_at_call 122
                  refine (HQT.out _ st0.low).mono ?_
                  rintro e wq ⟨rfl, hbq⟩
                  have stq := st0.below hbq
                  have c5 := RulB.c5 stq.g
                  have c6 := RulB.c6 stq.g
                  clear hbq
                  go_simp
                  refine hK _ _ ?_
                  clear hK K
                  refine wpAny_take (i := 4) (v := ?_) rfl (by kernel_rfl) (by kernel_rfl) (by kernel_rfl) (fun _ _ _ h => h) (Or.inl ⟨by kernel_rfl, ?_⟩) ?_
                  rotate_left
                  · intro w
                    go_simp
                    first | (with_reducible rfl) | (rw [if_neg (by first | omega | (simp only [ByteArray.size_append]; omega) | (simp; omega))])
                  refine wpAny_ready (rs := [7]) (by kernel_rfl) (by simp) ?_
                  refine (AllReady.cons rfl (fun K hK => ?_) AllReady.nil)
                  go_simp
                  go_at_call 123
                  refine (HLT.out _ stq.low).mono ?_
                  rintro e wl ⟨rfl, rfl⟩
                  go_simp
                  refine hK _ _ ?_
                  clear hK K
                  refine wpAny_take (i := 8) (v := ?_) rfl (by kernel_rfl) (by kernel_rfl) (by kernel_rfl) (fun _ _ _ h => h) (Or.inl ⟨by kernel_rfl, ?_⟩) ?_
                  rotate_left
                  · intro w
                    go_simp
                    first | (with_reducible rfl) | (rw [if_neg (by first | omega | (simp only [ByteArray.size_append]; omega) | (simp; omega))])
                  refine wpAny_ready (rs := [9]) (by kernel_rfl) (by simp) ?_
                  refine AllReady.cons rfl (fun K hK => ?_) AllReady.nil
                  go_simp
                  refine hK _ _ ?_
                  clear hK K
                  refine wpAny_ready (rs := [10]) (by kernel_rfl) (by simp) ?_
                  refine AllReady.cons rfl (fun K hK => ?_) AllReady.nil
                  refine step_append_strs (by rfl) (.tmp 64) (.tmp 73) (by rfl) (w.heap.size + 1) _ W (by rfl) (stq.own.alloc _) (wq.heap.size + 1) (some ⟨wq.heap.size, 0, none⟩) 4 4 [fF, pathW ++ Q, fF, permW ++ L] (by rfl) rfl (by exact four_new_S wq _ _ _ _ 9) (by simp; omega) (by have := stq.lt; simp; omega) ?_
                  intro v5 w5 own5 hg5 hat5
                  have st5 := stq.app own5 hg5
                  clear own5 hg5 hat5
                  refine hK _ _ ?_
                  clear hK K
                  refine wpAny_ready (rs := [11]) (by kernel_rfl) (by simp) ?_
                  refine AllReady.cons rfl (fun K hK => ?_) AllReady.nil
                  go_simp
                  refine hK _ _ ?_
                  clear hK K
                  refine wpAny_done (by kernel_rfl) ?_ _
                  go_wp2_with fail
                  go_meet
                  exact ⟨_, st5, rfl⟩
              · go_simp
                refine hK _ _ ?_
                clear hK K
                refine wpAny_ready (rs := [2]) (by kernel_rfl) (by simp) ?_
                refine (AllReady.cons rfl (fun K hK => ?_) AllReady.nil)
                go_simp
                refine hK _ _ ?_
                clear hK K
                refine wpAny_ready (rs := [3]) (by kernel_rfl) (by simp) ?_
                refine (AllReady.cons rfl (fun K hK => ?_) AllReady.nil)
                go_simp
                go_at_call 122
                refine (HQT.out _ st0.low).mono ?_
                rintro e wq ⟨rfl, hbq⟩
                have stq := st0.below hbq
                have c5 := RulB.c5 stq.g
                have c6 := RulB.c6 stq.g
                clear hbq
                go_simp
                refine hK _ _ ?_
                clear hK K
                refine wpAny_take (i := 4) (v := ?_) rfl (by kernel_rfl) (by kernel_rfl) (by kernel_rfl) (fun _ _ _ h => h) (Or.inl ⟨by kernel_rfl, ?_⟩) ?_
                rotate_left
                · intro w
                  go_simp
                  first | (with_reducible rfl) | (rw [if_neg (by first | omega | (simp only [ByteArray.size_append]; omega) | (simp; omega))])
                refine wpAny_ready (rs := [7]) (by kernel_rfl) (by simp) ?_
                refine (AllReady.cons rfl (fun K hK => ?_) AllReady.nil)
                go_simp
                go_at_call 123
                refine (HLT.out _ stq.low).mono ?_
                rintro e wl ⟨rfl, rfl⟩
                go_simp
                refine hK _ _ ?_
                clear hK K
                refine wpAny_take (i := 8) (v := ?_) rfl (by kernel_rfl) (by kernel_rfl) (by kernel_rfl) (fun _ _ _ h => h) (Or.inl ⟨by kernel_rfl, ?_⟩) ?_
                rotate_left
                · intro w
                  go_simp
                  first | (with_reducible rfl) | (rw [if_neg (by first | omega | (simp only [ByteArray.size_append]; omega) | (simp; omega))])
                refine wpAny_ready (rs := [9]) (by kernel_rfl) (by simp) ?_
                refine AllReady.cons rfl (fun K hK => ?_) AllReady.nil
                go_simp
                refine hK _ _ ?_
                clear hK K
                refine wpAny_ready (rs := [10]) (by kernel_rfl) (by simp) ?_
                refine AllReady.cons rfl (fun K hK => ?_) AllReady.nil
                refine step_append_strs (by rfl) (.tmp 64) (.tmp 73) (by rfl) (w.heap.size + 1) _ W (by rfl) (stq.own.alloc _) (wq.heap.size + 1) (some ⟨wq.heap.size, 0, none⟩) 4 4 [fF, pathW ++ Q, fF, permW ++ L] (by rfl) rfl (by exact four_new_S wq _ _ _ _ 9) (by simp; omega) (by have := stq.lt; simp; omega) ?_
                intro v5 w5 own5 hg5 hat5
                have st5 := stq.app own5 hg5
                clear own5 hg5 hat5
                refine hK _ _ ?_
                clear hK K
                refine wpAny_ready (rs := [11]) (by kernel_rfl) (by simp) ?_
                refine AllReady.cons rfl (fun K hK => ?_) AllReady.nil
                go_simp
                refine hK _ _ ?_
                clear hK K
                refine wpAny_done (by kernel_rfl) ?_ _
                go_wp2_with fail
                go_meet
                exact ⟨_, st5, rfl⟩
            case rest =>
              obtain ⟨M, hst, rfl⟩ := hcut
              clear ST
              have ST := Lib.hid hst
              have hwl : (W ++ [fF, pathW ++ Q, fF, permW ++ L]).length ≤ 40 := by simp; omega
              clear hst HQT HLT
              generalize W ++ [fF, pathW ++ Q, fF, permW ++ L] = W at *
              have c7 := RulB.c7 ST.out.g
              by_cases hkz : r.ke.size = 0
              · have ek := emptyF hkz
                have HLL := Lib.hid (show W = fA :: restR r by rw [HFIN.out]; unfold keyW; rw [if_pos hkz, List.append_nil])
                have HST2 := ST.out
                rw [HLL.out] at HST2
                have HJ := Lib.hid (vjoinO _ _ _ _ _ HST2.own (by have := HSZ.out.2; omega) (by decide) (fun s hs => by have := HSZ.out.1 s hs; omega))
                have HLW := Lib.hid HST2.low
                clear hkz HST2 HFIN
                go_wp2_with fail
                refine HJ.out.mono ?_
                rintro e w9 ⟨rfl, hb9⟩
                go_wp2_with fail
                go_ret2
                exact ⟨retSI HTX.out.symm rfl, below_then HLW.out hb9⟩
              · have ek := nonemptyF hkz
                have ek2 : r.ke.toList.isEmpty = false := by simpa using ek
                have HLL := Lib.hid (show W ++ [fK, quoteS r.ke] = fA :: restR r by rw [HFIN.out]; unfold keyW; rw [if_neg hkz])
                clear hkz HFIN
                go_wp2_with fail
                refine (HQK.out _ ST.out.low).mono ?_
                rintro e w8 ⟨rfl, hb8⟩
                have st8 := ST.out.below hb8
                have hsz := st8.lt
                clear hb8 c7
                go_wp2_with (at_builtin; refine wpList_append_strs rfl (.tmp 91) (.tmp 95) rfl (w.heap.size + 1) _ W rfl (st8.own.alloc _) (w8.heap.size + 1) (some ⟨w8.heap.size, 0, none⟩) 2 2 [fK, quoteS r.ke] rfl rfl (two_new_S w8 _ _ 9) (by simp only [List.length_cons, List.length_nil]; omega) (by simp; omega) ?_; intro v9 w9 own9 hg9 hat9)
                have st9 := st8.app own9 hg9
                rw [HLL.out] at st9
                have HJ := Lib.hid (vjoinO _ _ _ _ _ st9.own (by have := HSZ.out.2; omega) (by decide) (fun s hs => by have := HSZ.out.1 s hs; omega))
                have HLW := Lib.hid st9.low
                clear own9 hg9 hat9 st8 st9
                go_wp2_with fail
                refine HJ.out.mono ?_
                rintro e w10 ⟨rfl, hb10⟩
                go_wp2_with fail
                go_ret2
                exact ⟨retSI HTX.out.symm rfl, below_then HLW.out hb10⟩
          · have HFIN := Lib.hid (show fA :: restR r = (W ++ [fF, dirW ++ Q, fF, permW ++ L]) ++ keyW r.ke by rw [HFI.out, HWP.out.2 h2, HPW.out.2]; simp)
            have b1 : (r.wa == 1) = false := by simp; omega
            have b2 : (r.wa == 2) = true := by simp; omega
            clear h2 HWW HWT HWP HFI HPW
            go_upto_block 2 with (fail)
            clear c4
            go_cut [5] (fun v wx => ∃ M, FSt w wx r (.slice A k c) v M ∧ M = W ++ [fF, dirW ++ Q, fF, permW ++ L])
            case first =>
              go_upto_region 22 with (fail)
              refine wp_region_any (by kernel_rfl) ?_
              change wpAny _ _ _ _ _ _ _ (World.drew _)
              refine wpAny_take (i := 0) (v := ?_) rfl (by kernel_rfl) (by kernel_rfl) (by kernel_rfl) (fun _ _ _ h => h) (Or.inl ⟨by kernel_rfl, ?_⟩) ?_
              rotate_left
              · intro w
                go_simp
                try (with_reducible rfl)
              refine wpAny_take (i := 1) (v := ?_) rfl (by kernel_rfl) (by kernel_rfl) (by kernel_rfl) (fun _ _ _ h => h) (Or.inl ⟨by kernel_rfl, ?_⟩) ?_
              rotate_left
              · intro w
                go_simp
                try (with_reducible rfl)
              refine wpAny_take (i := 5) (v := ?_) rfl (by kernel_rfl) (by kernel_rfl) (by kernel_rfl) (fun _ _ _ h => h) (Or.inl ⟨by kernel_rfl, ?_⟩) ?_
              rotate_left
              · intro w
                go_simp
                try (with_reducible rfl)
              have st0 := ST.out.drew
              generalize wr.drew = w0 at *
              have c5 := RulB.c5 st0.g
              have c6 := RulB.c6 st0.g
              refine wpAny_ready (rs := [2, 6]) (by kernel_rfl) (by simp) ?_
              refine (AllReady.cons rfl (fun K hK => ?_) (AllReady.cons rfl (fun K hK => ?_) AllReady.nil))
              · go_simp
                refine hK _ _ ?_
                clear hK K
                refine wpAny_ready (rs := [3, 6]) (by kernel_rfl) (by simp) ?_
                refine (AllReady.cons rfl (fun K hK => ?_) (AllReady.cons rfl (fun K hK => ?_) AllReady.nil))
                · go_simp
                  go_at_call 122
                  refine (HQT.out _ st0.low).mono ?_
                  rintro e wq ⟨rfl, hbq⟩
                  have stq := st0.below hbq
                  have c5 := RulB.c5 stq.g
                  have c6 := RulB.c6 stq.g
                  clear hbq
                  go_simp
                  refine hK _ _ ?_
                  clear hK K
                  refine wpAny_take (i := 4) (v := ?_) rfl (by kernel_rfl) (by kernel_rfl) (by kernel_rfl) (fun _ _ _ h => h) (Or.inl ⟨by kernel_rfl, ?_⟩) ?_
                  rotate_left
                  · intro w
                    go_simp
                    first | (with_reducible rfl) | (rw [if_neg (by first | omega | (simp only [ByteArray.size_append]; omega) | (simp; omega))])
                  refine wpAny_ready (rs := [6]) (by kernel_rfl) (by simp) ?_
                  refine (AllReady.cons rfl (fun K hK => ?_) AllReady.nil)
                  go_simp
                  refine hK _ _ ?_
                  clear hK K
                  refine wpAny_ready (rs := [7]) (by kernel_rfl) (by simp) ?_
                  refine (AllReady.cons rfl (fun K hK => ?_) AllReady.nil)
                  go_simp
                  go_at_call 123
                  refine (HLT.out _ stq.low).mono ?_
                  rintro e wl ⟨rfl, rfl⟩
                  go_simp
                  refine hK _ _ ?_
                  clear hK K
                  refine wpAny_take (i := 8) (v := ?_) rfl (by kernel_rfl) (by kernel_rfl) (by kernel_rfl) (fun _ _ _ h => h) (Or.inl ⟨by kernel_rfl, ?_⟩) ?_
                  rotate_left
                  · intro w
                    go_simp
                    first | (with_reducible rfl) | (rw [if_neg (by first | omega | (simp only [ByteArray.size_append]; omega) | (simp; omega))])
                  refine wpAny_ready (rs := [9]) (by kernel_rfl) (by simp) ?_
                  refine AllReady.cons rfl (fun K hK => ?_) AllReady.nil
                  go_simp
                  refine hK _ _ ?_
                  clear hK K
                  refine wpAny_ready (rs := [10]) (by kernel_rfl) (by simp) ?_
                  refine AllReady.cons rfl (fun K hK => ?_) AllReady.nil
                  refine step_append_strs (by rfl) (.tmp 77) (.tmp 86) (by rfl) (w.heap.size + 1) _ W (by rfl) (stq.own.alloc _) (wq.heap.size + 1) (some ⟨wq.heap.size, 0, none⟩) 4 4 [fF, dirW ++ Q, fF, permW ++ L] (by rfl) rfl (by exact four_new_S wq _ _ _ _ 9) (by simp; omega) (by have := stq.lt; simp; omega) ?_
                  intro v5 w5 own5 hg5 hat5
                  have st5 := stq.app own5 hg5
                  clear own5 hg5 hat5
                  refine hK _ _ ?_
                  clear hK K
                  refine wpAny_ready (rs := [11]) (by kernel_rfl) (by simp) ?_
                  refine AllReady.cons rfl (fun K hK => ?_) AllReady.nil
                  go_simp
                  refine hK _ _ ?_
                  clear hK K
                  refine wpAny_done (by kernel_rfl) ?_ _
                  go_wp2_with fail
                  go_meet
                  exact ⟨_, st5, rfl⟩
                · go_simp
                  refine hK _ _ ?_
                  clear hK K
                  refine wpAny_ready (rs := [3]) (by kernel_rfl) (by simp) ?_
                  refine (AllReady.cons rfl (fun K hK => ?_) AllReady.nil)
                  go_simp
                  go_at_call 122
                  refine (HQT.out _ st0.low).mono ?_
                  rintro e wq ⟨rfl, hbq⟩
                  have stq := st0.below hbq
                  have c5 := RulB.c5 stq.g
                  have c6 := RulB.c6 stq.g
                  clear hbq
                  go_simp
                  refine hK _ _ ?_
                  clear hK K
                  refine wpAny_take (i := 4) (v := ?_) rfl (by kernel_rfl) (by kernel_rfl) (by kernel_rfl) (fun _ _ _ h => h) (Or.inl ⟨by kernel_rfl, ?_⟩) ?_
                  rotate_left
                  · intro w
                    go_simp
                    first | (with_reducible rfl) | (rw [if_neg (by first | omega | (simp only [ByteArray.size_append]; omega) | (simp; omega))])
                  refine wpAny_ready (rs := [7]) (by kernel_rfl) (by simp) ?_
                  refine (AllReady.cons rfl (fun K hK => ?_) AllReady.nil)
                  go_simp
                  go_at_call 123
                  refine (HLT.out _ stq.low).mono ?_
                  rintro e wl ⟨rfl, rfl⟩
                  go_simp
                  refine hK _ _ ?_
                  clear hK K
                  refine wpAny_take (i := 8) (v := ?_) rfl (by kernel_rfl) (by kernel_rfl) (by kernel_rfl) (fun _ _ _ h => h) (Or.inl ⟨by kernel_rfl, ?_⟩) ?_
                  rotate_left
                  · intro w
                    go_simp
                    first | (with_reducible rfl) | (rw [if_neg (by first | omega | (simp only [ByteArray.size_append]; omega) | (simp; omega))])
                  refine wpAny_ready (rs := [9]) (by kernel_rfl) (by simp) ?_
                  refine AllReady.cons rfl (fun K hK => ?_) AllReady.nil
                  go_simp
                  refine hK _ _ ?_
                  clear hK K
                  refine wpAny_ready (rs := [10]) (by kernel_rfl) (by simp) ?_
                  refine AllReady.cons rfl (fun K hK => ?_) AllReady.nil
                  refine step_append_strs (by rfl) (.tmp 77) (.tmp 86) (by rfl) (w.heap.size + 1) _ W (by rfl) (stq.own.alloc _) (wq.heap.size + 1) (some ⟨wq.heap.size, 0, none⟩) 4 4 [fF, dirW ++ Q, fF, permW ++ L] (by rfl) rfl (by exact four_new_S wq _ _ _ _ 9) (by simp; omega) (by have := stq.lt; simp; omega) ?_
                  intro v5 w5 own5 hg5 hat5
                  have st5 := stq.app own5 hg5
                  clear own5 hg5 hat5
                  refine hK _ _ ?_
                  clear hK K
                  refine wpAny_ready (rs := [11]) (by kernel_rfl) (by simp) ?_
                  refine AllReady.cons rfl (fun K hK => ?_) AllReady.nil
                  go_simp
                  refine hK _ _ ?_
                  clear hK K
                  refine wpAny_done (by kernel_rfl) ?_ _
                  go_wp2_with fail
                  go_meet
                  exact ⟨_, st5, rfl⟩
              · go_simp
                refine hK _ _ ?_
                clear hK K
                refine wpAny_ready (rs := [2]) (by kernel_rfl) (by simp) ?_
                refine (AllReady.cons rfl (fun K hK => ?_) AllReady.nil)
                go_simp
                refine hK _ _ ?_
                clear hK K
                refine wpAny_ready (rs := [3]) (by kernel_rfl) (by simp) ?_
                refine (AllReady.cons rfl (fun K hK => ?_) AllReady.nil)
                go_simp
                go_at_call 122
                refine (HQT.out _ st0.low).mono ?_
                rintro e wq ⟨rfl, hbq⟩
                have stq := st0.below hbq
                have c5 := RulB.c5 stq.g
                have c6 := RulB.c6 stq.g
                clear hbq
                go_simp
                refine hK _ _ ?_
                clear hK K
                refine wpAny_take (i := 4) (v := ?_) rfl (by kernel_rfl) (by kernel_rfl) (by kernel_rfl) (fun _ _ _ h => h) (Or.inl ⟨by kernel_rfl, ?_⟩) ?_
                rotate_left
                · intro w
                  go_simp
                  first | (with_reducible rfl) | (rw [if_neg (by first | omega | (simp only [ByteArray.size_append]; omega) | (simp; omega))])
                refine wpAny_ready (rs := [7]) (by kernel_rfl) (by simp) ?_
                refine (AllReady.cons rfl (fun K hK => ?_) AllReady.nil)
                go_simp
                go_at_call 123
                refine (HLT.out _ stq.low).mono ?_
                rintro e wl ⟨rfl, rfl⟩
                go_simp
                refine hK _ _ ?_
                clear hK K
                refine wpAny_take (i := 8) (v := ?_) rfl (by kernel_rfl) (by kernel_rfl) (by kernel_rfl) (fun _ _ _ h => h) (Or.inl ⟨by kernel_rfl, ?_⟩) ?_
                rotate_left
                · intro w
                  go_simp
                  first | (with_reducible rfl) | (rw [if_neg (by first | omega | (simp only [ByteArray.size_append]; omega) | (simp; omega))])
                refine wpAny_ready (rs := [9]) (by kernel_rfl) (by simp) ?_
                refine AllReady.cons rfl (fun K hK => ?_) AllReady.nil
                go_simp
                refine hK _ _ ?_
                clear hK K
                refine wpAny_ready (rs := [10]) (by kernel_rfl) (by simp) ?_
                refine AllReady.cons rfl (fun K hK => ?_) AllReady.nil
                refine step_append_strs (by rfl) (.tmp 77) (.tmp 86) (by rfl) (w.heap.size + 1) _ W (by rfl) (stq.own.alloc _) (wq.heap.size + 1) (some ⟨wq.heap.size, 0, none⟩) 4 4 [fF, dirW ++ Q, fF, permW ++ L] (by rfl) rfl (by exact four_new_S wq _ _ _ _ 9) (by simp; omega) (by have := stq.lt; simp; omega) ?_
                intro v5 w5 own5 hg5 hat5
                have st5 := stq.app own5 hg5
                clear own5 hg5 hat5
                refine hK _ _ ?_
                clear hK K
                refine wpAny_ready (rs := [11]) (by kernel_rfl) (by simp) ?_
                refine AllReady.cons rfl (fun K hK => ?_) AllReady.nil
                go_simp
                refine hK _ _ ?_
                clear hK K
                refine wpAny_done (by kernel_rfl) ?_ _
                go_wp2_with fail
                go_meet
                exact ⟨_, st5, rfl⟩
            case rest =>
              obtain ⟨M, hst, rfl⟩ := hcut
              clear ST
              have ST := Lib.hid hst
              have hwl : (W ++ [fF, dirW ++ Q, fF, permW ++ L]).length ≤ 40 := by simp; omega
              clear hst HQT HLT
              generalize W ++ [fF, dirW ++ Q, fF, permW ++ L] = W at *
              have c7 := RulB.c7 ST.out.g
              by_cases hkz : r.ke.size = 0
              · have ek := emptyF hkz
                have HLL := Lib.hid (show W = fA :: restR r by rw [HFIN.out]; unfold keyW; rw [if_pos hkz, List.append_nil])
                have HST2 := ST.out
                rw [HLL.out] at HST2
                have HJ := Lib.hid (vjoinO _ _ _ _ _ HST2.own (by have := HSZ.out.2; omega) (by decide) (fun s hs => by have := HSZ.out.1 s hs; omega))
                have HLW := Lib.hid HST2.low
                clear hkz HST2 HFIN
                go_wp2_with fail
                refine HJ.out.mono ?_
                rintro e w9 ⟨rfl, hb9⟩
                go_wp2_with fail
                go_ret2
                exact ⟨retSI HTX.out.symm rfl, below_then HLW.out hb9⟩
              · have ek := nonemptyF hkz
                have ek2 : r.ke.toList.isEmpty = false := by simpa using ek
                have HLL := Lib.hid (show W ++ [fK, quoteS r.ke] = fA :: restR r by rw [HFIN.out]; unfold keyW; rw [if_neg hkz])
                clear hkz HFIN
                go_wp2_with fail
                refine (HQK.out _ ST.out.low).mono ?_
                rintro e w8 ⟨rfl, hb8⟩
                have st8 := ST.out.below hb8
                have hsz := st8.lt
                clear hb8 c7
                go_wp2_with (at_builtin; refine wpList_append_strs rfl (.tmp 91) (.tmp 95) rfl (w.heap.size + 1) _ W rfl (st8.own.alloc _) (w8.heap.size + 1) (some ⟨w8.heap.size, 0, none⟩) 2 2 [fK, quoteS r.ke] rfl rfl (two_new_S w8 _ _ 9) (by simp only [List.length_cons, List.length_nil]; omega) (by simp; omega) ?_; intro v9 w9 own9 hg9 hat9)
                have st9 := st8.app own9 hg9
                rw [HLL.out] at st9
                have HJ := Lib.hid (vjoinO _ _ _ _ _ st9.own (by have := HSZ.out.2; omega) (by decide) (fun s hs => by have := HSZ.out.1 s hs; omega))
                have HLW := Lib.hid st9.low
                clear own9 hg9 hat9 st8 st9
                go_wp2_with fail
                refine HJ.out.mono ?_
                rintro e w10 ⟨rfl, hb10⟩
                go_wp2_with fail
                go_ret2
                exact ⟨retSI HTX.out.symm rfl, below_then HLW.out hb10⟩
end Go.Proofs.YtollifnnpihfdaaGreatDoor

/- Texts of one proof, laid together. -/
import Derived.Test.YtollifnnpihfdaaGreatDoorC24
/- Format of the reference's rules returns fmtR: the walk. -/
namespace Go.Proofs.YtollifnnpihfdaaGreatDoor
open Go.RowKit
attribute [local irreducible] checkF watchB callsB firstE checkR cleanB callsOk textR headW maskS quoteS testS anyE permS catW listN actN cellsAc cellsLi keyT
set_option maxRecDepth 100000 in
set_option maxHeartbeats 16000000 in
theorem rformatR_ok (r : Rul) (A : Option Addr) (n c : Nat) (hn : n = r.ts.length) (hg : GoodR r) (w : World) (hT : TestsAt w w.heap.size A r.ts) :
    Calls Tryz.prog 78 #[rulV r (.slice A n c)] w fun e w' => e = .returned (.tuple #[.string (textR r), .int .i64 0]) ∧ Below w.heap.size w w' := by
  obtain ⟨HG0, HB0⟩ := rul_box w r (.slice A n c)
  have HV := Lib.hid (rcheckR r A c n hn (good_siz hg) (w.alloc (.cells (rulC r (.slice A n c)) 90)) ((hT.keep HB0 (Nat.le_refl _)).more HB0.size))
  rw [hg.ok] at HV
  have hc := checkR_zero hg.ok
  have HT := Lib.hid hT
  have HN := Lib.hid hn
  have HGO := Lib.hid hg
  have hln : n ≤ 8 := by rw [hn]; exact hc.len
  have HBX := Lib.hid HB0
  have HGX := Lib.hid HG0
  have l0 := hc.li.1
  have l1 := hc.li.2
  have a0 : 1 ≤ r.ac := by have := hc.ac; omega
  have a1 : r.ac ≤ 2 := by have := hc.ac; omega
  have HCA := Lib.hid hc.ca
  have HWT := Lib.hid (watch_ok hc)
  have hke : r.ke.size ≤ 31 := hc.key
  have HSP := Lib.hid (wordsR_split r)
  have HTX := Lib.hid (show textR r = catW fA (restR r) by unfold textR; rfl)
  have HSZ := Lib.hid (rest_size hg)
  clear HG0 HB0 hT hn hg hc
  go_enter Tryz.func78, Tryz.ntmps78
  go_wp2_with fail
  refine HV.out.mono ?_
  rintro e w1 ⟨rfl, hb1⟩
  have HB1 := Lib.hid (HBX.out.trans (hb1.mono HBX.out.size))
  have HG1 := Lib.hid (Blk.below HGX.out hb1)
  clear hb1
  go_upto_region 4 with (fail)
  go_cut [5] (fun v wx => RSt w wx r (.slice A n c) v (catW fA [headW r]))
  case first =>
    have i0 : (0 : Int) ≤ r.ac := by omega
    have i1 : r.ac < 3 := by omega
    have i2 : (0 : Int) ≤ r.li := by omega
    have i3 : r.li < 6 := by omega
    have z1 : (actN r.ac.toNat).size ≤ 20 := by have := head_size r; unfold headW at this; rw [ByteArray.size_append, ByteArray.size_append] at this; omega
    have z2 : (listN r.li.toNat).size ≤ 20 := by have := head_size r; unfold headW at this; rw [ByteArray.size_append, ByteArray.size_append] at this; omega
    have HHD := Lib.hid (show (⟨#[45, 97, 32]⟩ : ByteArray) ++ actN r.ac.toNat ++ ⟨#[44]⟩ ++ listN r.li.toNat = catW fA [headW r] by rw [text_head]; unfold headW; rfl)
    refine wp_region_held_drew (S := (fun w' => RulB w' w.heap.size r (.slice A n c))) (by kernel_rfl) (Blk.below HG1.out (Below.refl _ _).drew) (fun hHeld => ?_)
    refine wpAnyH_take (i := 1) (v := ?_) rfl (by kernel_rfl) (by kernel_rfl) (by kernel_rfl) (fun _ _ _ h => h) (Or.inl ⟨by kernel_rfl, ?_⟩) hHeld ?_
    rotate_left
    · intro w hSw
      go_simp
      first | (with_reducible rfl) | (rw [if_neg (by first | omega | (simp only [ByteArray.size_append]; omega) | (simp; omega))])
    refine wpAnyH_take (i := 8) (v := ?_) rfl (by kernel_rfl) (by kernel_rfl) (by kernel_rfl) (fun _ _ _ h => h) (Or.inl ⟨by kernel_rfl, ?_⟩) hHeld ?_
    rotate_left
    · intro w hSw
      go_simp
      first | (with_reducible rfl) | (rw [if_neg (by first | omega | (simp only [ByteArray.size_append]; omega) | (simp; omega))])
    refine wpAnyH_take (i := 2) (v := ?_) rfl (by kernel_rfl) (by kernel_rfl) (by kernel_rfl) (fun _ _ _ h => h) (Or.inl ⟨by kernel_rfl, ?_⟩) hHeld ?_
    rotate_left
    · intro w hSw
      have k0 := RulB.c0 hSw
      have k1 := RulB.c1 hSw
      go_simp
      first | (with_reducible rfl) | (rw [if_neg (by first | omega | (simp only [ByteArray.size_append]; omega) | (simp; omega))])
    refine wpAnyH_take (i := 9) (v := ?_) rfl (by kernel_rfl) (by kernel_rfl) (by kernel_rfl) (fun _ _ _ h => h) (Or.inl ⟨by kernel_rfl, ?_⟩) hHeld ?_
    rotate_left
    · intro w hSw
      have k0 := RulB.c0 hSw
      have k1 := RulB.c1 hSw
      go_simp
      first | (with_reducible rfl) | (rw [if_neg (by first | omega | (simp only [ByteArray.size_append]; omega) | (simp; omega))])
    refine wpAnyH_ready (rs := [0]) (by kernel_rfl) (by simp) ?_
    refine AllReadyH.cons rfl (fun K hK => ?_) AllReadyH.nil
    go_simp
    go_at_call 125
    refine (ractions _).mono ?_
    rintro e w2 ⟨rfl, hga, hb2⟩
    have HLW := Lib.hid (below_then (Below.drew HB1.out) hb2)
    have ca : w2.cell? ⟨w1.heap.size, r.ac.toNat, none⟩ = some (.string (actN r.ac.toNat)) := (Glob.cell hga r.ac.toNat).trans (cellsAc_at (k := r.ac.toNat) (by omega))
    have HAB := Lib.hid (show w1.heap.size < w2.heap.size from Glob.lt hga)
    have hg2 := Blk.below hHeld hb2
    clear hga hb2
    go_simp
    refine hK.out _ _ hg2 (fun hHeld => ?_)
    clear hK K hg2
    refine wpAnyH_take (i := 3) (v := ?_) rfl (by kernel_rfl) (by kernel_rfl) (by kernel_rfl) (fun _ _ _ h => h) (Or.inl ⟨by kernel_rfl, ?_⟩) hHeld ?_
    rotate_left
    · intro w hSw
      go_simp
      first | (with_reducible rfl) | (rw [if_neg (by first | omega | (simp only [ByteArray.size_append]; omega) | (simp; omega))])
    refine wpAnyH_ready (rs := [4, 7]) (by kernel_rfl) (by simp) ?_
    refine (AllReadyH.cons rfl (fun K hK => ?_) (AllReadyH.cons rfl (fun K hK => ?_) AllReadyH.nil))
    · go_simp
      refine hK.out _ _ hHeld (fun hHeld => ?_)
      clear hK K
      refine wpAnyH_take (i := 5) (v := ?_) rfl (by kernel_rfl) (by kernel_rfl) (by kernel_rfl) (fun _ _ _ h => h) (Or.inl ⟨by kernel_rfl, ?_⟩) hHeld ?_
      rotate_left
      · intro w hSw
        go_simp
        first | (with_reducible rfl) | (rw [if_neg (by first | omega | (simp only [ByteArray.size_append]; omega) | (simp; omega))])
      refine wpAnyH_take (i := 6) (v := ?_) rfl (by kernel_rfl) (by kernel_rfl) (by kernel_rfl) (fun _ _ _ h => h) (Or.inl ⟨by kernel_rfl, ?_⟩) hHeld ?_
      rotate_left
      · intro w hSw
        go_simp
        first | (with_reducible rfl) | (rw [if_neg (by first | omega | (simp only [ByteArray.size_append]; omega) | (simp; omega))])
      refine wpAnyH_ready (rs := [7]) (by kernel_rfl) (by simp) ?_
      refine (AllReadyH.cons rfl (fun K hK => ?_) AllReadyH.nil)
      go_simp
      go_at_call 126
      refine (rlists _).mono ?_
      rintro e w3 ⟨rfl, hgl, hb3⟩
      have HLW := Lib.hid (below_then HLW.out hb3)
      have cl : w3.cell? ⟨w2.heap.size, r.li.toNat, none⟩ = some (.string (listN r.li.toNat)) := (Glob.cell hgl r.li.toNat).trans (cellsLi_at (k := r.li.toNat) (by omega))
      have hg3 := Blk.below hHeld hb3
      clear hgl hb3
      go_simp
      refine hK.out _ _ hg3 (fun hHeld => ?_)
      clear hK K hg3
      refine wpAnyH_take (i := 10) (v := ?_) rfl (by kernel_rfl) (by kernel_rfl) (by kernel_rfl) (fun _ _ _ h => h) (Or.inl ⟨by kernel_rfl, ?_⟩) hHeld ?_
      rotate_left
      · intro w hSw
        go_simp
        first | (with_reducible rfl) | (rw [if_neg (by first | omega | (simp only [ByteArray.size_append]; omega) | (simp; omega))])
      refine wpAnyH_ready (rs := [11]) (by kernel_rfl) (by simp) ?_
      refine (AllReadyH.cons rfl (fun K hK => ?_) AllReadyH.nil)
      go_simp
      refine hK.out _ _ hHeld (fun hHeld => ?_)
      clear hK K
      refine wpAnyH_take (i := 12) (v := ?_) rfl (by kernel_rfl) (by kernel_rfl) (by kernel_rfl) (fun _ _ _ h => h) (Or.inl ⟨by kernel_rfl, ?_⟩) hHeld ?_
      rotate_left
      · intro w hSw
        go_simp
        first | (with_reducible rfl) | (rw [if_neg (by first | omega | (simp only [ByteArray.size_append]; omega) | (simp; omega))])
      refine wpAnyH_ready (rs := [13]) (by kernel_rfl) (by simp) ?_
      refine AllReadyH.cons rfl (fun K hK => ?_) AllReadyH.nil
      go_simp
      refine hK.out _ _ hHeld (fun hHeld => ?_)
      clear hK K
      refine wpAnyH_done (by kernel_rfl) ?_ _
      go_wp2_with fail
      go_meet
      exact ⟨congrArg Value.string HHD.out, hHeld, HLW.out⟩
    · go_simp
      go_at_call 126
      refine (rlists _).mono ?_
      rintro e w3 ⟨rfl, hgl, hb3⟩
      have HLW := Lib.hid (below_then HLW.out hb3)
      have cl : w3.cell? ⟨w2.heap.size, r.li.toNat, none⟩ = some (.string (listN r.li.toNat)) := (Glob.cell hgl r.li.toNat).trans (cellsLi_at (k := r.li.toNat) (by omega))
      have ca := (hb3.cell (by show _ < _; first | exact HAB.out | omega)).trans ca
      have hg3 := Blk.below hHeld hb3
      clear hgl hb3
      go_simp
      refine hK.out _ _ hg3 (fun hHeld => ?_)
      clear hK K hg3
      refine wpAnyH_take (i := 10) (v := ?_) rfl (by kernel_rfl) (by kernel_rfl) (by kernel_rfl) (fun _ _ _ h => h) (Or.inl ⟨by kernel_rfl, ?_⟩) hHeld ?_
      rotate_left
      · intro w hSw
        go_simp
        first | (with_reducible rfl) | (rw [if_neg (by first | omega | (simp only [ByteArray.size_append]; omega) | (simp; omega))])
      refine wpAnyH_ready (rs := [4, 11]) (by kernel_rfl) (by simp) ?_
      refine (AllReadyH.cons rfl (fun K hK => ?_) (AllReadyH.cons rfl (fun K hK => ?_) AllReadyH.nil))
      · go_simp
        refine hK.out _ _ hHeld (fun hHeld => ?_)
        clear hK K
        refine wpAnyH_take (i := 5) (v := ?_) rfl (by kernel_rfl) (by kernel_rfl) (by kernel_rfl) (fun _ _ _ h => h) (Or.inl ⟨by kernel_rfl, ?_⟩) hHeld ?_
        rotate_left
        · intro w hSw
          go_simp
          first | (with_reducible rfl) | (rw [if_neg (by first | omega | (simp only [ByteArray.size_append]; omega) | (simp; omega))])
        refine wpAnyH_take (i := 6) (v := ?_) rfl (by kernel_rfl) (by kernel_rfl) (by kernel_rfl) (fun _ _ _ h => h) (Or.inl ⟨by kernel_rfl, ?_⟩) hHeld ?_
        rotate_left
        · intro w hSw
          go_simp
          first | (with_reducible rfl) | (rw [if_neg (by first | omega | (simp only [ByteArray.size_append]; omega) | (simp; omega))])
        refine wpAnyH_ready (rs := [11]) (by kernel_rfl) (by simp) ?_
        refine (AllReadyH.cons rfl (fun K hK => ?_) AllReadyH.nil)
        go_simp
        refine hK.out _ _ hHeld (fun hHeld => ?_)
        clear hK K
        refine wpAnyH_take (i := 12) (v := ?_) rfl (by kernel_rfl) (by kernel_rfl) (by kernel_rfl) (fun _ _ _ h => h) (Or.inl ⟨by kernel_rfl, ?_⟩) hHeld ?_
        rotate_left
        · intro w hSw
          go_simp
          first | (with_reducible rfl) | (rw [if_neg (by first | omega | (simp only [ByteArray.size_append]; omega) | (simp; omega))])
        refine wpAnyH_ready (rs := [13]) (by kernel_rfl) (by simp) ?_
        refine AllReadyH.cons rfl (fun K hK => ?_) AllReadyH.nil
        go_simp
        refine hK.out _ _ hHeld (fun hHeld => ?_)
        clear hK K
        refine wpAnyH_done (by kernel_rfl) ?_ _
        go_wp2_with fail
        go_meet
        exact ⟨congrArg Value.string HHD.out, hHeld, HLW.out⟩
      · go_simp
        refine hK.out _ _ hHeld (fun hHeld => ?_)
        clear hK K
        refine wpAnyH_ready (rs := [4]) (by kernel_rfl) (by simp) ?_
        refine (AllReadyH.cons rfl (fun K hK => ?_) AllReadyH.nil)
        go_simp
        refine hK.out _ _ hHeld (fun hHeld => ?_)
        clear hK K
        refine wpAnyH_take (i := 5) (v := ?_) rfl (by kernel_rfl) (by kernel_rfl) (by kernel_rfl) (fun _ _ _ h => h) (Or.inl ⟨by kernel_rfl, ?_⟩) hHeld ?_
        rotate_left
        · intro w hSw
          go_simp
          first | (with_reducible rfl) | (rw [if_neg (by first | omega | (simp only [ByteArray.size_append]; omega) | (simp; omega))])
        refine wpAnyH_take (i := 6) (v := ?_) rfl (by kernel_rfl) (by kernel_rfl) (by kernel_rfl) (fun _ _ _ h => h) (Or.inl ⟨by kernel_rfl, ?_⟩) hHeld ?_
        rotate_left
        · intro w hSw
          go_simp
          first | (with_reducible rfl) | (rw [if_neg (by first | omega | (simp only [ByteArray.size_append]; omega) | (simp; omega))])
        refine wpAnyH_take (i := 12) (v := ?_) rfl (by kernel_rfl) (by kernel_rfl) (by kernel_rfl) (fun _ _ _ h => h) (Or.inl ⟨by kernel_rfl, ?_⟩) hHeld ?_
        rotate_left
        · intro w hSw
          go_simp
          first | (with_reducible rfl) | (rw [if_neg (by first | omega | (simp only [ByteArray.size_append]; omega) | (simp; omega))])
        refine wpAnyH_ready (rs := [13]) (by kernel_rfl) (by simp) ?_
        refine AllReadyH.cons rfl (fun K hK => ?_) AllReadyH.nil
        go_simp
        refine hK.out _ _ hHeld (fun hHeld => ?_)
        clear hK K
        refine wpAnyH_done (by kernel_rfl) ?_ _
        go_wp2_with fail
        go_meet
        exact ⟨congrArg Value.string HHD.out, hHeld, HLW.out⟩
  case rest =>
    have ST2 := Lib.hid hcut
    have q2 := RulB.c2 hcut.g
    obtain rfl := hcut.v
    clear hcut
    have HMF := Lib.hid (fun W => rmfmt r.ca W (good_siz HGO.out).ca)
    have hmz := mask_size r.ca
    have z0 : (catW fA [headW r]).size ≤ 30 := by
      have := catW_size 20 [headW r] fA (fun t ht => by rw [List.mem_singleton.1 ht]; exact head_size r)
      have e1 : fA.size = 2 := rfl
      simp only [List.length_cons, List.length_nil] at this
      omega
    go_upto_if 29 with (fail)
    go_cut [5] (fun v wx => RSt w wx r (.slice A n c) v (catW fA (headW r :: callW r)))
    case first =>
      rcases HCA.out with ⟨hcb, hne, hlt⟩ | ⟨hcb, hz⟩
      · have HCW := Lib.hid (show catW fA [headW r] ++ ((⟨#[32, 45, 83, 32]⟩ : ByteArray) ++ maskS r.ca) = catW fA (headW r :: callW r) by unfold callW; rw [if_pos hcb]; exact text_S _ fA [headW r] _ rfl)
        have b0 : ((r.ca : Int) != 0) = true := by simp; omega
        clear hcb
        generalize catW fA [headW r] = T at *
        generalize maskS r.ca = M at *
        go_wp2_with fail
        refine (HMF.out _).mono ?_
        rintro e w3 ⟨rfl, hb3⟩
        have st3 := ST2.out.below hb3
        clear hb3
        go_wp2_with fail
        go_meet
        exact ⟨congrArg Value.string HCW.out, st3.g, st3.low⟩
      · have HCW := Lib.hid (show callW r = [] by unfold callW; rw [if_neg (by rw [hcb]; decide)])
        have b0 : ((r.ca : Int) != 0) = false := by simp; omega
        clear hcb
        go_wp2_with fail
        go_meet
        exact ⟨by rw [HCW.out], ST2.out.g, ST2.out.low⟩
    case rest =>
      have ST := Lib.hid hcut
      have q3 := RulB.c3 hcut.g
      obtain rfl := hcut.v
      clear hcut q2 HMF HCA ST2 hmz z0
      go_wp2_with fail
      clear q3
      go_loopw [5, 6] (fun v i wr => ∃ k : Nat, k ≤ n ∧ i = .int .i64 (k : Int) ∧ RSt w wr r (.slice A n c) v (catW fA (headW r :: (callW r ++ testsW r.ts k)))) (fun _ i _ => n - (intOf i).toNat)
      case atStart => exact ⟨0, Nat.zero_le _, rfl, by rw [testsW_zero, List.append_nil]; exact ST.out⟩
      case round =>
        obtain ⟨k, hk, rfl, hst⟩ := hrel
        clear ST
        have ST := Lib.hid hst
        have q3 := RulB.c3 hst.g
        obtain rfl := hst.v
        have hts := text_pre HGO.out (headW r :: (callW r ++ testsW r.ts k)) (partW ((r.ts.drop k).map .tst) ++ (partW (watchP r) ++ keyW r.ke)) (by rw [HSP.out, testsW_split r.ts k]; simp only [List.cons_append, List.append_assoc])
        by_cases hlt : k < n
        · have hkl : k < r.ts.length := by rw [← HN.out]; exact hlt
          obtain ⟨ad, rfl, hadb, t0, t1, t2, t3, t4⟩ := (HT.out.keep hst.low (Nat.le_refl _)).cells hkl
          have hbb : (⟨(ad.add (k * 5)).block, (ad.add (k * 5)).off + 4, none⟩ : Addr).block < wr.heap.size := by show (ad.add (k * 5)).block < _; rw [addT_block]; exact Nat.lt_of_lt_of_le hadb hst.low.size
          have HNX := Lib.hid (testsW_next hkl)
          have hck := firstE_all (checkR_zero HGO.out.ok).tst _ (List.getElem_mem hkl)
          have HI := Lib.hid (HGO.out.nums _ (List.getElem_mem hkl))
          have hxs := (part_size (.tst (r.ts[k]'hkl)) (parts_ok HGO.out _ (List.mem_append.2 (.inl (List.mem_map.2 ⟨_, List.getElem_mem hkl, rfl⟩)))) (fun t ht => by injection ht with ht; subst ht; exact tx_small hck)).1
          have HXM := Lib.hid (show (r.ts[k]'hkl).tx.size ≤ maxLen by have := tx_small hck; unfold maxLen; omega)
          have HAN := Lib.hid (show anyE (r.ts[k]'hkl).fd (r.ts[k]'hkl).op (r.ts[k]'hkl).nu (r.ts[k]'hkl).tx (r.ts[k]'hkl).ot = 0 from any_of_chk hck)
          have HFL := Lib.hid (flag_tst (r.ts[k]'hkl))
          clear hck hst
          change (r.ts[k]'hkl).txt.size ≤ 2100 at hxs
          unfold Tst.txt at HNX hxs
          generalize r.ts[k] = t at *
          obtain ⟨fd, op, nu, tx, ot⟩ := t
          simp only at t0 t1 t2 t3 t4 HI HXM HAN HFL HNX hxs
          have HFM := Lib.hid (rformatF fd op nu tx ot HI.out HXM.out wr)
          rw [HAN.out] at HFM
          generalize hL : headW r :: (callW r ++ testsW r.ts k) = L at *
          have HL := Lib.hid hL
          clear hL
          go_wp2_with fail
          refine HFM.out.mono ?_
          rintro e w5 ⟨rfl, hb5⟩
          have st5 := ST.out.below hb5
          have q5 := RulB.c3 st5.g
          have p4 : w5.cell? ⟨(ad.add (k * 5)).block, (ad.add (k * 5)).off + 4, none⟩ = some (.int .i64 ot) := (show w5.cell? ⟨(ad.add (k * 5)).block, (ad.add (k * 5)).off + 4, none⟩ = wr.cell? ⟨(ad.add (k * 5)).block, (ad.add (k * 5)).off + 4, none⟩ from hb5.cell hbb).trans t4
          clear hb5 t0 t1 t2 t3 t4 HFM ST q3
          generalize testS fd op nu tx ot = X at *
          by_cases hot : ot = 0
          · have b0 : (ot != 0) = false := by simpa using hot
            have HFF := Lib.hid (show (Part.tst ⟨fd, op, nu, tx, ot⟩).flag = fF by rw [HFL.out, if_neg (by simpa using hot)])
            rw [HFF.out] at HNX
            have HTX2 := Lib.hid (show catW fA L ++ ((⟨#[32, 45, 70, 32]⟩ : ByteArray) ++ X) = catW fA (headW r :: (callW r ++ testsW r.ts (k + 1))) by rw [text_F _ fA L X rfl, HNX.out, ← HL.out]; simp)
            clear hot HFL HFF
            generalize catW fA L = T at *
            go_wp2_with fail
            go_roundw
            case rel => exact ⟨k + 1, by omega, by go_num, congrArg Value.string HTX2.out, st5.g, st5.low⟩
            case measure => simp [intOf]; omega
          · have b0 : (ot != 0) = true := by simpa using hot
            have HFF := Lib.hid (show (Part.tst ⟨fd, op, nu, tx, ot⟩).flag = fC by rw [HFL.out, if_pos hot])
            rw [HFF.out] at HNX
            have HTX2 := Lib.hid (show catW fA L ++ ((⟨#[32, 45, 67, 32]⟩ : ByteArray) ++ X) = catW fA (headW r :: (callW r ++ testsW r.ts (k + 1))) by rw [text_C _ fA L X rfl, HNX.out, ← HL.out]; simp)
            clear hot HFL HFF
            generalize catW fA L = T at *
            go_wp2_with fail
            go_roundw
            case rel => exact ⟨k + 1, by omega, by go_num, congrArg Value.string HTX2.out, st5.g, st5.low⟩
            case measure => simp [intOf]; omega
        · have hkn : k = n := by omega
          subst hkn
          have HW1 := Lib.hid (show restR r = (headW r :: (callW r ++ testsW r.ts k)) ++ (partW (watchP r) ++ keyW r.ke) by rw [HSP.out, HN.out]; simp only [List.cons_append, List.append_assoc])
          generalize headW r :: (callW r ++ testsW r.ts k) = W at *
          clear hlt hst HSP
          have HRK := Lib.hid (fun WW => rkey r A k c hke WW)
          have hkt := keyT_size r.ke hke
          have c4 := RulB.c4 ST.out.g
          rcases HWT.out with ⟨h0, -, -⟩ | ⟨h12, -, -, hpa, pe1, pe2⟩
          · have HFIN := Lib.hid (show catW fA W ++ keyT r.ke = textR r by rw [HTX.out, HW1.out, text_key]; unfold watchP; rw [if_neg (by omega), if_neg (by omega)]; simp [partW])
            have b1 : (r.wa == 1) = false := by simp; omega
            have b2 : (r.wa == 2) = false := by simp; omega
            have c0 := RulB.c0 ST.out.g
            have c1 := RulB.c1 ST.out.g
            have c2 := RulB.c2 ST.out.g
            have c5 := RulB.c5 ST.out.g
            have c6 := RulB.c6 ST.out.g
            have c7 := RulB.c7 ST.out.g
            clear h0 HWT
            generalize catW fA W = T at *
            go_wp2_with fail
            refine (HRK.out _).mono ?_
            rintro e w9 ⟨rfl, hb9⟩
            go_wp2_with fail
            go_ret2
            exact ⟨retSI HFIN.out rfl, below_then ST.out.low hb9⟩
          · have HQT := Lib.hid (fun WW => rquoteR r.pa WW (by have := (good_siz HGO.out).pa; unfold maxLen; omega))
            have HLT := Lib.hid (fun WW => rperms r.pe ⟨by omega, pe2⟩ WW)
            have hQ : (quoteS r.pa).size ≤ 1300 := quoteS_leF r.pa (by omega)
            have hL : (permS r.pe).size ≤ 4 := by rw [permS_bits, ← permK_all]; exact permK_size _ _ _ _ _
            rcases h12 with h1 | h1
            · have HPW := Lib.hid (show partW (watchP r) = [fF, pathW ++ quoteS r.pa, fF, permW ++ permS r.pe] by unfold watchP; rw [if_pos h1]; rfl)
              have HTP := Lib.hid (text_path (catW fA W) fA W (quoteS r.pa) (permS r.pe) rfl)
              have HFIN := Lib.hid (show catW fA (W ++ [fF, pathW ++ quoteS r.pa, fF, permW ++ permS r.pe]) ++ keyT r.ke = textR r by rw [HTX.out, HW1.out, HPW.out, text_key]; simp only [List.append_assoc])
              have hts2 := text_pre HGO.out (W ++ [fF, pathW ++ quoteS r.pa, fF, permW ++ permS r.pe]) (keyW r.ke) (by rw [HW1.out, HPW.out]; simp only [List.append_assoc])
              have b1 : (r.wa == 1) = true := by simp; omega
              have b2 : (r.wa == 2) = false := by simp; omega
              clear h1 HWT HPW
              generalize catW fA (W ++ [fF, pathW ++ quoteS r.pa, fF, permW ++ permS r.pe]) = T2 at *
              generalize catW fA W = T at *
              generalize quoteS r.pa = Q at *
              generalize permS r.pe = L at *
              go_upto_if 69 with (fail)
              go_cut [5] (fun v wx => RSt w wx r (.slice A k c) v T2)
              case first =>
                go_upto_region 15 with (fail)
                have st0 := ST.out.below (Below.refl _ _).drew
                refine wp_region_held_drew (S := (fun w' => RulB w' w.heap.size r (.slice A k c))) (by kernel_rfl) st0.g (fun hHeld => ?_)
                refine wpAnyH_take (i := 0) (v := ?_) rfl (by kernel_rfl) (by kernel_rfl) (by kernel_rfl) (fun _ _ _ h => h) (Or.inl ⟨by kernel_rfl, ?_⟩) hHeld ?_
                rotate_left
                · intro w hSw
                  go_simp
                  first | (with_reducible rfl) | (rw [if_neg (by first | omega | (simp only [ByteArray.size_append]; omega) | (simp; omega))])
                refine wpAnyH_take (i := 1) (v := ?_) rfl (by kernel_rfl) (by kernel_rfl) (by kernel_rfl) (fun _ _ _ h => h) (Or.inl ⟨by kernel_rfl, ?_⟩) hHeld ?_
                rotate_left
                · intro w hSw
                  go_simp
                  first | (with_reducible rfl) | (rw [if_neg (by first | omega | (simp only [ByteArray.size_append]; omega) | (simp; omega))])
                refine wpAnyH_take (i := 6) (v := ?_) rfl (by kernel_rfl) (by kernel_rfl) (by kernel_rfl) (fun _ _ _ h => h) (Or.inl ⟨by kernel_rfl, ?_⟩) hHeld ?_
                rotate_left
                · intro w hSw
                  go_simp
                  first | (with_reducible rfl) | (rw [if_neg (by first | omega | (simp only [ByteArray.size_append]; omega) | (simp; omega))])
                refine wpAnyH_take (i := 2) (v := ?_) rfl (by kernel_rfl) (by kernel_rfl) (by kernel_rfl) (fun _ _ _ h => h) (Or.inl ⟨by kernel_rfl, ?_⟩) hHeld ?_
                rotate_left
                · intro w hSw
                  have k5 := RulB.c5 hSw
                  go_simp
                  first | (with_reducible rfl) | (rw [if_neg (by first | omega | (simp only [ByteArray.size_append]; omega) | (simp; omega))])
                refine wpAnyH_take (i := 7) (v := ?_) rfl (by kernel_rfl) (by kernel_rfl) (by kernel_rfl) (fun _ _ _ h => h) (Or.inl ⟨by kernel_rfl, ?_⟩) hHeld ?_
                rotate_left
                · intro w hSw
                  have k6 := RulB.c6 hSw
                  go_simp
                  first | (with_reducible rfl) | (rw [if_neg (by first | omega | (simp only [ByteArray.size_append]; omega) | (simp; omega))])
                refine wpAnyH_ready (rs := [3]) (by kernel_rfl) (by simp) ?_
                refine AllReadyH.cons rfl (fun K hK => ?_) AllReadyH.nil
                go_simp
                go_at_call 129
                refine (HQT.out _).mono ?_
                rintro e wq ⟨rfl, hb⟩
                have stq := st0.below hb
                clear hb
                go_simp
                refine hK.out _ _ stq.g (fun hHeld => ?_)
                clear hK K
                refine wpAnyH_take (i := 4) (v := ?_) rfl (by kernel_rfl) (by kernel_rfl) (by kernel_rfl) (fun _ _ _ h => h) (Or.inl ⟨by kernel_rfl, ?_⟩) hHeld ?_
                rotate_left
                · intro w hSw
                  go_simp
                  first | (with_reducible rfl) | (rw [if_neg (by first | omega | (simp only [ByteArray.size_append]; omega) | (simp; omega))])
                refine wpAnyH_take (i := 5) (v := ?_) rfl (by kernel_rfl) (by kernel_rfl) (by kernel_rfl) (fun _ _ _ h => h) (Or.inl ⟨by kernel_rfl, ?_⟩) hHeld ?_
                rotate_left
                · intro w hSw
                  go_simp
                  first | (with_reducible rfl) | (rw [if_neg (by first | omega | (simp only [ByteArray.size_append]; omega) | (simp; omega))])
                refine wpAnyH_ready (rs := [8]) (by kernel_rfl) (by simp) ?_
                refine AllReadyH.cons rfl (fun K hK => ?_) AllReadyH.nil
                go_simp
                go_at_call 130
                refine (HLT.out _).mono ?_
                rintro e wl ⟨rfl, rfl⟩
                go_simp
                refine hK.out _ _ hHeld (fun hHeld => ?_)
                clear hK K
                refine wpAnyH_take (i := 9) (v := ?_) rfl (by kernel_rfl) (by kernel_rfl) (by kernel_rfl) (fun _ _ _ h => h) (Or.inl ⟨by kernel_rfl, ?_⟩) hHeld ?_
                rotate_left
                · intro w hSw
                  go_simp
                  first | (with_reducible rfl) | (rw [if_neg (by first | omega | (simp only [ByteArray.size_append]; omega) | (simp; omega))])
                refine wpAnyH_take (i := 10) (v := ?_) rfl (by kernel_rfl) (by kernel_rfl) (by kernel_rfl) (fun _ _ _ h => h) (Or.inl ⟨by kernel_rfl, ?_⟩) hHeld ?_
                rotate_left
                · intro w hSw
                  go_simp
                  first | (with_reducible rfl) | (rw [if_neg (by first | omega | (simp only [ByteArray.size_append]; omega) | (simp; omega))])
                refine wpAnyH_ready (rs := [11]) (by kernel_rfl) (by simp) ?_
                refine AllReadyH.cons rfl (fun K hK => ?_) AllReadyH.nil
                go_simp
                refine hK.out _ _ hHeld (fun hHeld => ?_)
                clear hK K
                refine wpAnyH_done (by kernel_rfl) ?_ _
                go_wp2_with fail
                go_meet
                exact ⟨congrArg Value.string HTP.out, stq.g, stq.low⟩
              case rest =>
                have ST3 := Lib.hid hcut
                obtain rfl := hcut.v
                clear hcut c4
                have c0 := RulB.c0 ST3.out.g
                have c1 := RulB.c1 ST3.out.g
                have c2 := RulB.c2 ST3.out.g
                have c3 := RulB.c3 ST3.out.g
                have c4 := RulB.c4 ST3.out.g
                have c5 := RulB.c5 ST3.out.g
                have c6 := RulB.c6 ST3.out.g
                have c7 := RulB.c7 ST3.out.g
                clear q3
                go_wp2_with fail
                refine (HRK.out _).mono ?_
                rintro e w9 ⟨rfl, hb9⟩
                go_wp2_with fail
                go_ret2
                exact ⟨retSI HFIN.out rfl, below_then ST3.out.low hb9⟩
            · have HPW := Lib.hid (show partW (watchP r) = [fF, dirW ++ quoteS r.pa, fF, permW ++ permS r.pe] by unfold watchP; rw [if_neg (by omega), if_pos h1]; rfl)
              have HTP := Lib.hid (text_dir (catW fA W) fA W (quoteS r.pa) (permS r.pe) rfl)
              have HFIN := Lib.hid (show catW fA (W ++ [fF, dirW ++ quoteS r.pa, fF, permW ++ permS r.pe]) ++ keyT r.ke = textR r by rw [HTX.out, HW1.out, HPW.out, text_key]; simp only [List.append_assoc])
              have hts2 := text_pre HGO.out (W ++ [fF, dirW ++ quoteS r.pa, fF, permW ++ permS r.pe]) (keyW r.ke) (by rw [HW1.out, HPW.out]; simp only [List.append_assoc])
              have b1 : (r.wa == 1) = false := by simp; omega
              have b2 : (r.wa == 2) = true := by simp; omega
              clear h1 HWT HPW
              generalize catW fA (W ++ [fF, dirW ++ quoteS r.pa, fF, permW ++ permS r.pe]) = T2 at *
              generalize catW fA W = T at *
              generalize quoteS r.pa = Q at *
              generalize permS r.pe = L at *
              go_upto_if 83 with (fail)
              go_cut [5] (fun v wx => RSt w wx r (.slice A k c) v T2)
              case first =>
                go_upto_region 17 with (fail)
                have st0 := ST.out.below (Below.refl _ _).drew
                refine wp_region_held_drew (S := (fun w' => RulB w' w.heap.size r (.slice A k c))) (by kernel_rfl) st0.g (fun hHeld => ?_)
                refine wpAnyH_take (i := 0) (v := ?_) rfl (by kernel_rfl) (by kernel_rfl) (by kernel_rfl) (fun _ _ _ h => h) (Or.inl ⟨by kernel_rfl, ?_⟩) hHeld ?_
                rotate_left
                · intro w hSw
                  go_simp
                  first | (with_reducible rfl) | (rw [if_neg (by first | omega | (simp only [ByteArray.size_append]; omega) | (simp; omega))])
                refine wpAnyH_take (i := 1) (v := ?_) rfl (by kernel_rfl) (by kernel_rfl) (by kernel_rfl) (fun _ _ _ h => h) (Or.inl ⟨by kernel_rfl, ?_⟩) hHeld ?_
                rotate_left
                · intro w hSw
                  go_simp
                  first | (with_reducible rfl) | (rw [if_neg (by first | omega | (simp only [ByteArray.size_append]; omega) | (simp; omega))])
                refine wpAnyH_take (i := 6) (v := ?_) rfl (by kernel_rfl) (by kernel_rfl) (by kernel_rfl) (fun _ _ _ h => h) (Or.inl ⟨by kernel_rfl, ?_⟩) hHeld ?_
                rotate_left
                · intro w hSw
                  go_simp
                  first | (with_reducible rfl) | (rw [if_neg (by first | omega | (simp only [ByteArray.size_append]; omega) | (simp; omega))])
                refine wpAnyH_take (i := 2) (v := ?_) rfl (by kernel_rfl) (by kernel_rfl) (by kernel_rfl) (fun _ _ _ h => h) (Or.inl ⟨by kernel_rfl, ?_⟩) hHeld ?_
                rotate_left
                · intro w hSw
                  have k5 := RulB.c5 hSw
                  go_simp
                  first | (with_reducible rfl) | (rw [if_neg (by first | omega | (simp only [ByteArray.size_append]; omega) | (simp; omega))])
                refine wpAnyH_take (i := 7) (v := ?_) rfl (by kernel_rfl) (by kernel_rfl) (by kernel_rfl) (fun _ _ _ h => h) (Or.inl ⟨by kernel_rfl, ?_⟩) hHeld ?_
                rotate_left
                · intro w hSw
                  have k6 := RulB.c6 hSw
                  go_simp
                  first | (with_reducible rfl) | (rw [if_neg (by first | omega | (simp only [ByteArray.size_append]; omega) | (simp; omega))])
                refine wpAnyH_ready (rs := [3]) (by kernel_rfl) (by simp) ?_
                refine AllReadyH.cons rfl (fun K hK => ?_) AllReadyH.nil
                go_simp
                go_at_call 129
                refine (HQT.out _).mono ?_
                rintro e wq ⟨rfl, hb⟩
                have stq := st0.below hb
                clear hb
                go_simp
                refine hK.out _ _ stq.g (fun hHeld => ?_)
                clear hK K
                refine wpAnyH_take (i := 4) (v := ?_) rfl (by kernel_rfl) (by kernel_rfl) (by kernel_rfl) (fun _ _ _ h => h) (Or.inl ⟨by kernel_rfl, ?_⟩) hHeld ?_
                rotate_left
                · intro w hSw
                  go_simp
                  first | (with_reducible rfl) | (rw [if_neg (by first | omega | (simp only [ByteArray.size_append]; omega) | (simp; omega))])
                refine wpAnyH_take (i := 5) (v := ?_) rfl (by kernel_rfl) (by kernel_rfl) (by kernel_rfl) (fun _ _ _ h => h) (Or.inl ⟨by kernel_rfl, ?_⟩) hHeld ?_
                rotate_left
                · intro w hSw
                  go_simp
                  first | (with_reducible rfl) | (rw [if_neg (by first | omega | (simp only [ByteArray.size_append]; omega) | (simp; omega))])
                refine wpAnyH_ready (rs := [8]) (by kernel_rfl) (by simp) ?_
                refine AllReadyH.cons rfl (fun K hK => ?_) AllReadyH.nil
                go_simp
                go_at_call 130
                refine (HLT.out _).mono ?_
                rintro e wl ⟨rfl, rfl⟩
                go_simp
                refine hK.out _ _ hHeld (fun hHeld => ?_)
                clear hK K
                refine wpAnyH_take (i := 9) (v := ?_) rfl (by kernel_rfl) (by kernel_rfl) (by kernel_rfl) (fun _ _ _ h => h) (Or.inl ⟨by kernel_rfl, ?_⟩) hHeld ?_
                rotate_left
                · intro w hSw
                  go_simp
                  first | (with_reducible rfl) | (rw [if_neg (by first | omega | (simp only [ByteArray.size_append]; omega) | (simp; omega))])
                refine wpAnyH_take (i := 10) (v := ?_) rfl (by kernel_rfl) (by kernel_rfl) (by kernel_rfl) (fun _ _ _ h => h) (Or.inl ⟨by kernel_rfl, ?_⟩) hHeld ?_
                rotate_left
                · intro w hSw
                  go_simp
                  first | (with_reducible rfl) | (rw [if_neg (by first | omega | (simp only [ByteArray.size_append]; omega) | (simp; omega))])
                refine wpAnyH_ready (rs := [11]) (by kernel_rfl) (by simp) ?_
                refine AllReadyH.cons rfl (fun K hK => ?_) AllReadyH.nil
                go_simp
                refine hK.out _ _ hHeld (fun hHeld => ?_)
                clear hK K
                refine wpAnyH_done (by kernel_rfl) ?_ _
                go_wp2_with fail
                go_meet
                exact ⟨congrArg Value.string HTP.out, stq.g, stq.low⟩
              case rest =>
                have ST3 := Lib.hid hcut
                obtain rfl := hcut.v
                clear hcut c4
                have c0 := RulB.c0 ST3.out.g
                have c1 := RulB.c1 ST3.out.g
                have c2 := RulB.c2 ST3.out.g
                have c3 := RulB.c3 ST3.out.g
                have c4 := RulB.c4 ST3.out.g
                have c5 := RulB.c5 ST3.out.g
                have c6 := RulB.c6 ST3.out.g
                have c7 := RulB.c7 ST3.out.g
                clear q3
                go_wp2_with fail
                refine (HRK.out _).mono ?_
                rintro e w9 ⟨rfl, hb9⟩
                go_wp2_with fail
                go_ret2
                exact ⟨retSI HFIN.out rfl, below_then ST3.out.low hb9⟩
end Go.Proofs.YtollifnnpihfdaaGreatDoor
/- Both Formats in one contract, and the law's agrees. -/
namespace Go.Proofs.YtollifnnpihfdaaGreatDoor
open Go.RowKit
attribute [local irreducible] checkF watchB callsB firstE checkR cleanB callsOk textR headW maskS quoteS testS anyE permS catW listN actN cellsAc cellsLi keyT fmtR
set_option maxRecDepth 100000 in
set_option maxHeartbeats 4000000 in
theorem rformatR_bad (r : Rul) (A : Option Addr) (n c : Nat) (hn : n = r.ts.length) (hz : SizR r) (w : World) (hT : TestsAt w w.heap.size A r.ts) (h0 : checkR r ≠ 0) :
    Calls Tryz.prog 78 #[rulV r (.slice A n c)] w fun e w' => e = .returned (.tuple #[.string (fmtR r), .int .i64 (checkR r)]) ∧ Below w.heap.size w w' := by
  obtain ⟨HG0, HB0⟩ := rul_box w r (.slice A n c)
  have HV := Lib.hid (rcheckR r A c n hn hz (w.alloc (.cells (rulC r (.slice A n c)) 90)) ((hT.keep HB0 (Nat.le_refl _)).more HB0.size))
  have bn := ret_ne h0
  have HF := Lib.hid (fmt_bad h0)
  have HB := Lib.hid HB0
  clear HG0 HB0 hT h0 hz hn
  go_enter Tryz.func78, Tryz.ntmps78
  go_wp2_with fail
  refine HV.out.mono ?_
  rintro e w1 ⟨rfl, hb1⟩
  go_wp2_with fail
  go_ret2
  exact ⟨retSI HF.out.symm rfl, HB.out.trans (hb1.mono HB.out.size)⟩
/-- What both Formats return. -/
def fmtV (r : Rul) : Value := .tuple #[.string (fmtR r), .int .i64 (checkR r)]
theorem rformatR (r : Rul) (A : Option Addr) (n c : Nat) (hn : n = r.ts.length) (hz : SizR r) (hi : ∀ t ∈ r.ts, I64 t.nu) (w : World) (hT : TestsAt w w.heap.size A r.ts) :
    Calls Tryz.prog 78 #[rulV r (.slice A n c)] w fun e w' => e = .returned (fmtV r) ∧ Below w.heap.size w w' := by
  by_cases h0 : checkR r = 0
  · refine (rformatR_ok r A n c hn ⟨h0, hi⟩ w hT).mono ?_
    rintro e w1 ⟨rfl, hb⟩
    exact ⟨retSI (fmt_ok h0).symm h0.symm, hb⟩
  · exact rformatR_bad r A n c hn hz w hT h0
theorem vformatR (r : Rul) (A : Option Addr) (n c : Nat) (hn : n = r.ts.length) (hz : SizR r) (hi : ∀ t ∈ r.ts, I64 t.nu) (w : World) (hT : TestsAt w w.heap.size A r.ts) (hG : RGlob w) :
    Calls Tryz.prog 73 #[rulV r (.slice A n c)] w fun e w' => e = .returned (fmtV r) ∧ Below w.heap.size w w' := by
  by_cases h0 : checkR r = 0
  · refine (vformatR_ok r A n c hn ⟨h0, hi⟩ w hT hG).mono ?_
    rintro e w1 ⟨rfl, hb⟩
    exact ⟨retSI (fmt_ok h0).symm h0.symm, hb⟩
  · exact vformatR_bad r A n c hn hz w hT h0
end Go.Proofs.YtollifnnpihfdaaGreatDoor

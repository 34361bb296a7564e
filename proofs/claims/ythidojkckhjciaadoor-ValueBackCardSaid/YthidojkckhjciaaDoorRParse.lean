/- Parse of the reference (written by gen_rparse.py). -/
import Derived.Test.YthidojkckhjciaaDoorVParse
namespace Go.Proofs.YthidojkckhjciaaDoor
open Go.RowKit
theorem cut_at {s : ByteArray} {k : Nat} (hk : k < s.size) (h : ∀ j (hj : j < s.size), j < k → s[j] ≠ 61) (he : s[k] = 61) : CutAt s (s.extract 0 k) (s.extract (k + 1) s.size) := by
  have hk' : k < s.data.toList.length := by rw [Array.length_toList]; exact hk
  have e1 : (s.extract 0 k).data.toList = s.data.toList.take k := by rw [Lib.extract_data]; simp
  have e2 : (s.extract (k + 1) s.size).data.toList = s.data.toList.drop (k + 1) := by
    rw [Lib.extract_data]
    exact List.take_of_length_le (by rw [List.length_drop, Array.length_toList]; exact Nat.le_refl _)
  refine ⟨?_, ?_⟩
  · rw [e1, e2]
    have hg : s.data.toList[k] = 61 := he
    rw [← hg, ← List.drop_eq_getElem_cons hk', List.take_append_drop]
  · rw [e1]
    intro c hc hc61
    obtain ⟨j, hj, hjc⟩ := List.getElem_of_mem hc
    rw [List.length_take] at hj
    rw [List.getElem_take] at hjc
    have hjs : j < s.size := by omega
    exact h j hjs (by omega) (hjc.trans hc61)
theorem no_eq {s : ByteArray} (h : ∀ j (hj : j < s.size), s[j] ≠ 61) : ∀ c ∈ s.data.toList, c ≠ 61 := by
  intro c hc e
  obtain ⟨j, hj, hjc⟩ := List.getElem_of_mem hc
  exact h j (by rw [Array.length_toList] at hj; exact hj) (hjc.trans e)
attribute [local irreducible] checkE fmtS quoteS numS unqS unqE rdN
set_option maxRecDepth 100000 in
set_option maxHeartbeats 8000000 in
theorem rparse (s : ByteArray) (hs : s.size ≤ 1000000) (w : World) : Calls Tryd.prog 24 #[.string s] w (ParsePost s w) := by
  go_enter Tryd.func24, Tryd.ntmps24
  go_wp2_with fail
  have Rl := Blk.new w #[.string ⟨#[]⟩, .int .i64 0, .int .i64 0, .string ⟨#[]⟩] 31
  have hbl : Below w.heap.size w (w.alloc zeroO) := (Below.refl _ _).alloc (Nat.le_refl _) _
  generalize w.alloc (.cells #[.string ⟨#[]⟩, .int .i64 0, .int .i64 0, .string ⟨#[]⟩] 31) = wl at *
  go_loop [4] (fun i => ∃ k : Nat, k ≤ s.size ∧ i = .int .i64 k ∧ Hid (∀ j (hj : j < s.size), j < k → s[j] ≠ 61)) (fun i => s.size - (intOf i).toNat)
  case atStart => exact ⟨0, Nat.zero_le _, rfl, fun j _ hj => by omega⟩
  case round =>
    obtain ⟨k, hk, rfl, hno⟩ := hrel
    by_cases hlt : k < s.size
    · by_cases h61 : s[k] = 61
      · have HC0 := Lib.hid (cut_at hlt hno.out h61)
        have hbk : ((s[k].toNat : Int) != 61) = false := by rw [h61]; rfl
        have hke : ((k : Int) == (s.size : Int)) = false := by simp; omega
        have hz := cutat_size HC0.out
        clear h61 hno
        go_wp2_with fail
        have hz1 : (s.extract 0 k).size ≤ 1000000 := by omega
        have hz2 : (s.extract (k + 1) s.size).size ≤ 1000000 := by omega
        generalize s.extract 0 k = nm at *
        generalize hte : s.extract (k + 1) s.size = text at *
        have HTE := Lib.hid hte
        have HC := HC0
        clear hz HC0 hte
        have hlw : w.heap.size < wl.heap.size := Rl.lt
        have hne : w.heap.size ≠ wl.heap.size := Nat.ne_of_lt hlw
        have Rx := Rl.alloc (.cells #[.string nm, .int .i64 3, .int .i64 0, .string ⟨#[]⟩] 31)
        have Px := Blk.new wl #[.string nm, .int .i64 3, .int .i64 0, .string ⟨#[]⟩] 31
        have hbx := hbl.alloc hbl.size (.cells #[.string nm, .int .i64 3, .int .i64 0, .string ⟨#[]⟩] 31)
        clear Rl hbl
        refine (rread text _ hz2).mono ?_
        rintro e w2 ⟨rfl, rfl⟩
        by_cases hnum : numS (rdN text) = text
        · have hbq := str_eq hnum
          have HQ := Lib.hid hnum
          have hvb := rdN_bd text
          rw [hbq]
          clear hnum hbq
          generalize rdN text = v at *
          generalize hwx : wl.alloc (.cells #[.string nm, .int .i64 3, .int .i64 0, .string ⟨#[]⟩] 31) = wx at *
          clear hwx
          have P4 := Px
          have R4 := Rx
          have hbw4 := hbx
          clear Px Rx hbx
          have p0 := P4.cell 0
          have fp0 := P4.free 0
          have p1 := P4.cell 1
          have fp1 := P4.free 1
          have p2 := P4.cell 2
          have fp2 := P4.free 2
          have p3 := P4.cell 3
          have fp3 := P4.free 3
          go_wp2_with fail
          have Px := (P4.put 1 (.int .i64 1)).put 2 (.int .i64 v)
          have Rx := (R4.put_other (p := ⟨wl.heap.size, 1, none⟩) (.int .i64 1) hne).put_other (p := ⟨wl.heap.size, 2, none⟩) (.int .i64 v) hne
          have hbx := (hbw4.setCell (p := ⟨wl.heap.size, 1, none⟩) (by show _ ≤ wl.heap.size; omega) (.int .i64 1)).setCell (p := ⟨wl.heap.size, 2, none⟩) (by show _ ≤ wl.heap.size; omega) (.int .i64 v)
          clear p0 p1 p2 p3 fp0 fp1 fp2 fp3 P4 R4 hbw4
          have HTX := Lib.hid (show textS 1 v ⟨#[]⟩ = text from HQ.out)
          have HKD := Lib.hid (show KOk 1 v ⟨#[]⟩ from kok_one v)
          have HTZ := Lib.hid (show (⟨#[]⟩ : ByteArray).size ≤ 640 from by decide)
          have HNU := Lib.hid (show I64 v from hvb)
          refine (rformat nm 1 v ⟨#[]⟩ _ (by unfold maxLen; omega) (by have := HTZ.out; unfold maxLen; omega) hvb.1 hvb.2).mono ?_
          rintro e w4 ⟨rfl, hb4⟩
          have R4 := Rx.below hb4
          have P4 := Px.below hb4
          have hbw4 := below_then hbx hb4
          clear Rx Px hb4
          have r0 := R4.cell 0
          have fr0 := R4.free 0
          have r1 := R4.cell 1
          have fr1 := R4.free 1
          have r2 := R4.cell 2
          have fr2 := R4.free 2
          have r3 := R4.cell 3
          have fr3 := R4.free 3
          by_cases hck : checkE nm 1 v ⟨#[]⟩ = 0
          · have HR := Lib.hid (PIs.yes HC.out HNU.out hck HTX.out)
            have hfs := str_eq (fmt_cut HC.out hck HTX.out)
            rw [hck]
            clear hck
            have p0 := P4.cell 0
            have fp0 := P4.free 0
            have p1 := P4.cell 1
            have fp1 := P4.free 1
            have p2 := P4.cell 2
            have fp2 := P4.free 2
            have p3 := P4.cell 3
            have fp3 := P4.free 3
            go_wp2_with fail
            refine bodyPost_ret (parse_ret Tryd.func24 rfl _ _ w.heap.size _ _ _ _ rfl ((((R4.put 0 (.string nm)).put 1 (.int .i64 1)).put 2 (.int .i64 v)).put 3 (.string ⟨#[]⟩))) rfl ?_
            exact ⟨_, _, _, _, _, rfl, HR.out, (((hbw4.setCell (Nat.le_refl _) _).setCell (Nat.le_refl _) _).setCell (Nat.le_refl _) _).setCell (Nat.le_refl _) _⟩
          · have HR := Lib.hid (PIs.bad HC.out HKD.out HTZ.out hck HTX.out)
            have hck1 : (checkE nm 1 v ⟨#[]⟩ != 0) = true := by simpa using hck
            clear hck
            go_wp2_with fail
            refine bodyPost_ret (parse_ret Tryd.func24 rfl _ _ w.heap.size _ _ _ _ rfl ((((R4.put 0 (.string ⟨#[]⟩)).put 1 (.int .i64 0)).put 2 (.int .i64 0)).put 3 (.string ⟨#[]⟩))) rfl ?_
            exact ⟨_, _, _, _, _, rfl, HR.out, ((((hbw4).setCell (Nat.le_refl _) _).setCell (Nat.le_refl _) _).setCell (Nat.le_refl _) _).setCell (Nat.le_refl _) _⟩

        · have hbq := str_ne hnum
          have HNN := Lib.hid (show ∀ m, I64 m → numS m ≠ text from fun m hm e => hnum (by
            have h1 := rdN_num m hm.1 hm.2
            rw [e] at h1
            rw [h1]; exact e))
          rw [hbq]
          clear hnum hbq
          go_wp2_with fail
          rw [HTE.out]
          refine (runquote text _ hz2).mono ?_
          rintro e w3 ⟨rfl, hb3⟩
          have R4 := Rx.below hb3
          have P4 := Px.below hb3
          have hbw4 := below_then hbx hb3
          have hlt3 := P4.lt
          clear Rx Px hb3 hbx
          rcases unqE_cases text with hu | hu
          · obtain ⟨u1, u2⟩ := unq_text hu
            have HU1 := Lib.hid u1
            have HU2 := Lib.hid u2
            rw [hu]
            clear u1 u2 hu
            generalize unqS text = tx at *
            have p0 := P4.cell 0
            have fp0 := P4.free 0
            have p1 := P4.cell 1
            have fp1 := P4.free 1
            have p2 := P4.cell 2
            have fp2 := P4.free 2
            have p3 := P4.cell 3
            have fp3 := P4.free 3
            go_wp2_with fail
            have Px := (P4.put 1 (.int .i64 2)).put 3 (.string tx)
            have Rx := (R4.put_other (p := ⟨wl.heap.size, 1, none⟩) (.int .i64 2) hne).put_other (p := ⟨wl.heap.size, 3, none⟩) (.string tx) hne
            have hbx := (hbw4.setCell (p := ⟨wl.heap.size, 1, none⟩) (by show _ ≤ wl.heap.size; omega) (.int .i64 2)).setCell (p := ⟨wl.heap.size, 3, none⟩) (by show _ ≤ wl.heap.size; omega) (.string tx)
            clear p0 p1 p2 p3 fp0 fp1 fp2 fp3 P4 R4 hbw4
            have HTX := Lib.hid (show textS 2 0 tx = text from HU1.out)
            have HKD := Lib.hid (show KOk 2 0 tx from kok_two tx)
            have HTZ := Lib.hid (show (tx : ByteArray).size ≤ 640 from HU2.out)
            have HNU := Lib.hid (show I64 0 from by unfold I64; omega)
            refine (rformat nm 2 0 tx _ (by unfold maxLen; omega) (by have := HTZ.out; unfold maxLen; omega) (by omega) (by omega)).mono ?_
            rintro e w4 ⟨rfl, hb4⟩
            have R4 := Rx.below hb4
            have P4 := Px.below hb4
            have hbw4 := below_then hbx hb4
            clear Rx Px hb4
            have r0 := R4.cell 0
            have fr0 := R4.free 0
            have r1 := R4.cell 1
            have fr1 := R4.free 1
            have r2 := R4.cell 2
            have fr2 := R4.free 2
            have r3 := R4.cell 3
            have fr3 := R4.free 3
            by_cases hck : checkE nm 2 0 tx = 0
            · have HR := Lib.hid (PIs.yes HC.out HNU.out hck HTX.out)
              have hfs := str_eq (fmt_cut HC.out hck HTX.out)
              rw [hck]
              clear hck
              have p0 := P4.cell 0
              have fp0 := P4.free 0
              have p1 := P4.cell 1
              have fp1 := P4.free 1
              have p2 := P4.cell 2
              have fp2 := P4.free 2
              have p3 := P4.cell 3
              have fp3 := P4.free 3
              go_wp2_with fail
              refine bodyPost_ret (parse_ret Tryd.func24 rfl _ _ w.heap.size _ _ _ _ rfl ((((R4.put 0 (.string nm)).put 1 (.int .i64 2)).put 2 (.int .i64 0)).put 3 (.string tx))) rfl ?_
              exact ⟨_, _, _, _, _, rfl, HR.out, (((hbw4.setCell (Nat.le_refl _) _).setCell (Nat.le_refl _) _).setCell (Nat.le_refl _) _).setCell (Nat.le_refl _) _⟩
            · have HR := Lib.hid (PIs.bad HC.out HKD.out HTZ.out hck HTX.out)
              have hck1 : (checkE nm 2 0 tx != 0) = true := by simpa using hck
              clear hck
              go_wp2_with fail
              refine bodyPost_ret (parse_ret Tryd.func24 rfl _ _ w.heap.size _ _ _ _ rfl ((((R4.put 0 (.string ⟨#[]⟩)).put 1 (.int .i64 0)).put 2 (.int .i64 0)).put 3 (.string ⟨#[]⟩))) rfl ?_
              exact ⟨_, _, _, _, _, rfl, HR.out, ((((hbw4).setCell (Nat.le_refl _) _).setCell (Nat.le_refl _) _).setCell (Nat.le_refl _) _).setCell (Nat.le_refl _) _⟩

          · have HUN := Lib.hid (show unqE text ≠ 0 by rw [hu]; decide)
            rw [hu]
            clear hu
            have hbx := hbw4
            have Px := P4
            have Rx := R4
            clear hbw4 P4 R4
            have p0 := Px.cell 0
            have fp0 := Px.free 0
            have p1 := Px.cell 1
            have fp1 := Px.free 1
            have p2 := Px.cell 2
            have fp2 := Px.free 2
            have p3 := Px.cell 3
            have fp3 := Px.free 3
            go_wp2_with fail
            clear p0 p1 p2 p3 fp0 fp1 fp2 fp3
            refine (rformat nm 3 0 ⟨#[]⟩ _ (by unfold maxLen; omega) (by have := empty_size; unfold maxLen; omega) (by omega) (by omega)).mono ?_
            rintro e w4 ⟨rfl, hb4⟩
            have R4 := Rx.below hb4
            have P4 := Px.below hb4
            have hbw4 := below_then hbx hb4
            clear Rx Px hb4
            have r0 := R4.cell 0
            have fr0 := R4.free 0
            have r1 := R4.cell 1
            have fr1 := R4.free 1
            have r2 := R4.cell 2
            have fr2 := R4.free 2
            have r3 := R4.cell 3
            have fr3 := R4.free 3
            by_cases hnl : text = ⟨#[40, 110, 117, 108, 108, 41]⟩
            · by_cases hck : checkE nm 3 0 ⟨#[]⟩ = 0
              · have HR := Lib.hid (PIs.yes HC.out (by unfold I64; omega) hck hnl.symm)
                have hfs := str_eq (fmt_cut HC.out hck hnl.symm)
                rw [hck]
                clear hck hnl
                have p0 := P4.cell 0
                have fp0 := P4.free 0
                have p1 := P4.cell 1
                have fp1 := P4.free 1
                have p2 := P4.cell 2
                have fp2 := P4.free 2
                have p3 := P4.cell 3
                have fp3 := P4.free 3
                go_wp2_with fail
                refine bodyPost_ret (parse_ret Tryd.func24 rfl _ _ w.heap.size _ _ _ _ rfl ((((R4.put 0 (.string nm)).put 1 (.int .i64 3)).put 2 (.int .i64 0)).put 3 (.string ⟨#[]⟩))) rfl ?_
                exact ⟨_, _, _, _, _, rfl, HR.out, (((hbw4.setCell (Nat.le_refl _) _).setCell (Nat.le_refl _) _).setCell (Nat.le_refl _) _).setCell (Nat.le_refl _) _⟩
              · have HR := Lib.hid (PIs.bad HC.out kok_three (by decide) hck hnl.symm)
                have hck1 : (checkE nm 3 0 ⟨#[]⟩ != 0) = true := by simpa using hck
                clear hck hnl
                go_wp2_with fail
                refine bodyPost_ret (parse_ret Tryd.func24 rfl _ _ w.heap.size _ _ _ _ rfl ((((R4.put 0 (.string ⟨#[]⟩)).put 1 (.int .i64 0)).put 2 (.int .i64 0)).put 3 (.string ⟨#[]⟩))) rfl ?_
                exact ⟨_, _, _, _, _, rfl, HR.out, ((((hbw4).setCell (Nat.le_refl _) _).setCell (Nat.le_refl _) _).setCell (Nat.le_refl _) _).setCell (Nat.le_refl _) _⟩
            · have HR := Lib.hid (none_quoted HC.out HUN.out HNN.out hnl)
              by_cases hck : checkE nm 3 0 ⟨#[]⟩ = 0
              · have hfs := str_ne (show fmtS nm 3 0 ⟨#[]⟩ ≠ s from fun e => hnl ((cut_fmt HC.out hck e).2.symm.trans rfl))
                rw [hck]
                clear hck hnl
                go_wp2_with fail
                refine bodyPost_ret (parse_ret Tryd.func24 rfl _ _ w.heap.size _ _ _ _ rfl ((((R4.put 0 (.string ⟨#[]⟩)).put 1 (.int .i64 0)).put 2 (.int .i64 0)).put 3 (.string ⟨#[]⟩))) rfl ?_
                exact ⟨_, _, _, _, _, rfl, HR.out, ((((hbw4).setCell (Nat.le_refl _) _).setCell (Nat.le_refl _) _).setCell (Nat.le_refl _) _).setCell (Nat.le_refl _) _⟩
              · have hck1 : (checkE nm 3 0 ⟨#[]⟩ != 0) = true := by simpa using hck
                clear hck hnl
                go_wp2_with fail
                refine bodyPost_ret (parse_ret Tryd.func24 rfl _ _ w.heap.size _ _ _ _ rfl ((((R4.put 0 (.string ⟨#[]⟩)).put 1 (.int .i64 0)).put 2 (.int .i64 0)).put 3 (.string ⟨#[]⟩))) rfl ?_
                exact ⟨_, _, _, _, _, rfl, HR.out, ((((hbw4).setCell (Nat.le_refl _) _).setCell (Nat.le_refl _) _).setCell (Nat.le_refl _) _).setCell (Nat.le_refl _) _⟩

      · have hbk : ((s[k].toNat : Int) != 61) = true := by
          simp; intro e; exact h61 (UInt8.toNat_inj.1 (by rw [show (61 : UInt8).toNat = 61 from rfl]; omega))
        have HN := Lib.hid (show ∀ j (hj : j < s.size), j < k + 1 → s[j] ≠ 61 from fun j hj hjk => by
          by_cases e : j = k
          · subst e; exact h61
          · exact hno.out j hj (by omega))
        clear h61 hno
        go_wp2_with fail
        go_round
        case rel => exact ⟨k + 1, by omega, by go_num, HN.out⟩
        case measure => simp [intOf]; omega
    · obtain rfl : k = s.size := by omega
      have HR := Lib.hid (PIs.noeq (no_eq fun j hj => hno.out j hj hj))
      clear hno
      have R4 := Rl
      have r0 := R4.cell 0
      have fr0 := R4.free 0
      have r1 := R4.cell 1
      have fr1 := R4.free 1
      have r2 := R4.cell 2
      have fr2 := R4.free 2
      have r3 := R4.cell 3
      have fr3 := R4.free 3
      go_wp2_with fail
      refine bodyPost_ret (parse_ret Tryd.func24 rfl _ _ w.heap.size _ _ _ _ rfl ((((R4.put 0 (.string ⟨#[]⟩)).put 1 (.int .i64 0)).put 2 (.int .i64 0)).put 3 (.string ⟨#[]⟩))) rfl ?_
      exact ⟨_, _, _, _, _, rfl, HR.out, ((((hbl).setCell (Nat.le_refl _) _).setCell (Nat.le_refl _) _).setCell (Nat.le_refl _) _).setCell (Nat.le_refl _) _⟩
end Go.Proofs.YthidojkckhjciaaDoor

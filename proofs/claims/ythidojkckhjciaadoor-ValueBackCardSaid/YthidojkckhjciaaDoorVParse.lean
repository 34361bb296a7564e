/- Parse of package value. -/
import Derived.Test.YthidojkckhjciaaDoorEnv
namespace Go.Proofs.YthidojkckhjciaaDoor
open Go.RowKit
def ParsePost (s : ByteArray) (w : World) (e : Ending) (w' : World) : Prop := ∃ nm kd nu tx er, e = .returned (.tuple #[pairV nm kd nu tx, .int .i64 er]) ∧ PIs s nm kd nu tx er ∧ Below w.heap.size w w'
theorem results_cell_tmp {P : Program} {fn : Func} {p q : Tmp} {ty : TypeId} (h : fn.results = #[.cell p ty, .tmp q]) (tmps : Array Value) (w : World) (g : Nat) (t : TypeId) (cs : Array Value) (d : TypeDesc)
    (hp : tmps.getD p undef = .pointer (some ⟨g, 0, none⟩)) (hg : Blk w g t cs) (hu : P.underlying ty = some d) (hd : (match d with | .struct _ | .array _ _ => true | _ => false) = true) (hi : (P.info? ty).map (·.size) = some cs.size) :
    (results fn tmps).run P w = .ok (.tuple #[.agg cs, tmps.getD q undef]) w := by
  have hp' : tmps[p]?.getD undef = .pointer (some ⟨g, 0, none⟩) := by simpa using hp
  simp [results, h, hp', asAddr, run_loadVar_row w g t ty cs (0, 0) d hg hu hd hi]
theorem pair_size : (Tryd.prog.info? 31).map (·.size) = some 4 := by kernel_rfl
theorem parse_ret {f : FuncId} {fn : Func} (hf : Tryd.prog.funcs[f]? = some fn) (h : fn.results = #[.cell 2 31, .tmp 3]) (tmps : Array Value) (w : World) (g : Nat) (nm : ByteArray) (kd nu : Int) (tx : ByteArray) (hp : tmps.getD 2 undef = .pointer (some ⟨g, 0, none⟩)) (hg : Blk w g 31 #[.string nm, .int .i64 kd, .int .i64 nu, .string tx]) :
    (results fn tmps).run Tryd.prog w = .ok (.tuple #[pairV nm kd nu tx, tmps.getD 3 undef]) w :=
  results_cell_tmp h tmps w g _ _ _ hp hg Tryd.underlying31 rfl (by exact pair_size)
abbrev zeroO : Obj := .cells #[.string ⟨#[]⟩, .int .i64 0, .int .i64 0, .string ⟨#[]⟩] 31
theorem null_yes {t : ByteArray} (h : t = ⟨#[40, 110, 117, 108, 108, 41]⟩) : t.toList = [40, 110, 117, 108, 108, 41] := by subst h; rw [ByteArray.toList_eq]
theorem null_no {t : ByteArray} (h : t ≠ ⟨#[40, 110, 117, 108, 108, 41]⟩) : (t.toList == [40, 110, 117, 108, 108, 41]) = false := by
  rw [beq_eq_false_iff_ne]; exact fun e => h (bytes_ext (by rw [ByteArray.toList_eq] at e; exact e))
theorem prefix_yes {t : ByteArray} {c : UInt8} (h : Lib.hasPrefix t.data.toList [c] = true) : ∃ r, t.data.toList = c :: r := by
  unfold Lib.hasPrefix at h
  cases hl : t.data.toList with
  | nil => rw [hl] at h; simp at h
  | cons x r => rw [hl] at h; simp at h; exact ⟨r, by rw [h]⟩
theorem prefix_no {t : ByteArray} {c : UInt8} (h : Lib.hasPrefix t.data.toList [c] = false) : ∀ r, t.data.toList ≠ c :: r := by
  intro r e
  unfold Lib.hasPrefix at h
  rw [e] at h; simp at h
theorem vprefix (t p : ByteArray) (w : World) : Calls Tryd.prog 38 #[.string t, .string p] w fun e w' => e = .returned (.bool (Lib.hasPrefix t.data.toList p.data.toList)) ∧ w = w' :=
  (Tryd.strings_HasPrefix t p w).mono fun _ _ h => ⟨h.1, h.2.symm⟩
attribute [local irreducible] checkE fmtS quoteS numS unqS unqE
set_option maxRecDepth 100000 in
set_option maxHeartbeats 4000000 in
theorem vparse (s : ByteArray) (hs : s.size ≤ 1000000) (w : World) (he : Env w) : Calls Tryd.prog 23 #[.string s] w (ParsePost s w) := by
  have HE := Lib.hid (fun (W : World) (h : Below w.heap.size w W) => he.below h)
  have HCUT := Lib.hid (vcut s hs (w.alloc zeroO) (he.below ((Below.refl _ _).alloc (Nat.le_refl _) _)))
  clear he
  rcases cut_cases s with ⟨h1, h2⟩ | ⟨h1, h2⟩
  · rw [h1] at HCUT
    have HR := Lib.hid (PIs.noeq h2)
    clear h1 h2
    go_enter Tryd.func23, Tryd.ntmps23
    go_wp2_with fail
    refine HCUT.out.mono ?_
    rintro e w1 ⟨rfl, hb⟩
    have R1 : Blk w1 w.heap.size 31 _ := (Blk.new w _ _).keep (boxed hb) (by omega)
    have q0 := R1.cell 0
    have q1 := R1.cell 1
    have q2 := R1.cell 2
    have q3 := R1.cell 3
    have f0 := R1.free 0
    have f1 := R1.free 1
    have f2 := R1.free 2
    have f3 := R1.free 3
    go_wp2_with fail
    refine bodyPost_ret (parse_ret Tryd.func23 rfl _ _ w.heap.size _ _ _ _ rfl ((((R1.put 0 (.string ⟨#[]⟩)).put 1 (.int .i64 0)).put 2 (.int .i64 0)).put 3 (.string ⟨#[]⟩))) rfl ?_
    exact ⟨_, _, _, _, _, rfl, HR.out, ((((unbox' hb).setCell (Nat.le_refl _) _).setCell (Nat.le_refl _) _).setCell (Nat.le_refl _) _).setCell (Nat.le_refl _) _⟩
  · rw [h1] at HCUT
    have hz := cutat_size h2
    clear h1
    generalize (⟨(Lib.cut s.data.toList [61]).1.toArray⟩ : ByteArray) = nm at *
    generalize (⟨(Lib.cut s.data.toList [61]).2.1.toArray⟩ : ByteArray) = text at *
    have HC := Lib.hid h2
    have hz1 : nm.size ≤ 1000000 := by omega
    have hz2 : text.size ≤ 1000000 := by omega
    clear h2 hz
    by_cases hn : text = ⟨#[40, 110, 117, 108, 108, 41]⟩
    · have hb0 := str_eq hn
      have hb1' := null_yes hn
      have HN := Lib.hid hn
      clear hn
      go_enter Tryd.func23, Tryd.ntmps23
      go_wp2_with fail
      refine HCUT.out.mono ?_
      rintro e w1 ⟨rfl, hb⟩
      have R1 : Blk w1 w.heap.size 31 _ := (Blk.new w _ _).keep (boxed hb) (by omega)
      have hb1 := unbox' hb
      clear hb
      go_wp2_with fail
      have Rx := R1.alloc (.cells #[.string nm, .int .i64 3, .int .i64 0, .string ⟨#[]⟩] 31)
      have Px := Blk.new w1 #[.string nm, .int .i64 3, .int .i64 0, .string ⟨#[]⟩] 31
      have hbx := hb1.alloc hb1.size (.cells #[.string nm, .int .i64 3, .int .i64 0, .string ⟨#[]⟩] 31)
      clear R1 hb1
      have HTX := Lib.hid (show textS 3 0 ⟨#[]⟩ = text from HN.out.symm)
      have HKD := Lib.hid (show KOk 3 0 ⟨#[]⟩ from kok_three)
      have HTZ := Lib.hid (show (⟨#[]⟩ : ByteArray).size ≤ 640 from by decide)
      have HNU := Lib.hid (show I64 0 from by unfold I64; omega)
      refine (vcheck nm 3 0 ⟨#[]⟩ _ (by unfold maxLen; omega) (by have := HTZ.out; unfold maxLen; omega)).mono ?_
      rintro e w4 ⟨rfl, hb4⟩
      have R4 := Rx.below hb4
      have P4 := Px.below hb4
      have hbw4 := below_then hbx hb4
      clear Rx Px hb4
      have r0 := R4.cell 0
      have fr0 := R4.free 0
      have r1 := R4.cell 1
      have fr1 := R4.free 1
      have r2 := R4.cell 2
      have fr2 := R4.free 2
      have r3 := R4.cell 3
      have fr3 := R4.free 3
      by_cases hck : checkE nm 3 0 ⟨#[]⟩ = 0
      · have HR := Lib.hid (PIs.yes HC.out HNU.out hck HTX.out)
        rw [hck]
        clear hck
        have p0 := P4.cell 0
        have fp0 := P4.free 0
        have p1 := P4.cell 1
        have fp1 := P4.free 1
        have p2 := P4.cell 2
        have fp2 := P4.free 2
        have p3 := P4.cell 3
        have fp3 := P4.free 3
        go_wp2_with fail
        refine bodyPost_ret (parse_ret Tryd.func23 rfl _ _ w.heap.size _ _ _ _ rfl ((((R4.put 0 (.string nm)).put 1 (.int .i64 3)).put 2 (.int .i64 0)).put 3 (.string ⟨#[]⟩))) rfl ?_
        exact ⟨_, _, _, _, _, rfl, HR.out, (((hbw4.setCell (Nat.le_refl _) _).setCell (Nat.le_refl _) _).setCell (Nat.le_refl _) _).setCell (Nat.le_refl _) _⟩
      · have HR := Lib.hid (PIs.bad HC.out HKD.out HTZ.out hck HTX.out)
        have hck1 : (checkE nm 3 0 ⟨#[]⟩ != 0) = true := by simpa using hck
        clear hck
        go_wp2_with fail
        refine bodyPost_ret (parse_ret Tryd.func23 rfl _ _ w.heap.size _ _ _ _ rfl ((((R4.put 0 (.string ⟨#[]⟩)).put 1 (.int .i64 0)).put 2 (.int .i64 0)).put 3 (.string ⟨#[]⟩))) rfl ?_
        exact ⟨_, _, _, _, _, rfl, HR.out, ((((hbw4).setCell (Nat.le_refl _) _).setCell (Nat.le_refl _) _).setCell (Nat.le_refl _) _).setCell (Nat.le_refl _) _⟩
    · have hb0 := str_ne hn
      have hb1' := null_no hn
      have HN := Lib.hid hn
      clear hn
      cases hp1 : Lib.hasPrefix text.data.toList [34]
      · have HP1 := Lib.hid hp1
        cases hp2 : Lib.hasPrefix text.data.toList [120]
        · have HP2 := Lib.hid hp2
          have HNQ := Lib.hid (show unqE text ≠ 0 from fun h => by
            obtain ⟨c, r, e1, e2⟩ := unq_head h
            rcases e2 with e2 | e2
            · exact prefix_no hp1 r (by rw [e1, show c = 34 from UInt8.toNat_inj.1 e2])
            · exact prefix_no hp2 r (by rw [e1, show c = 120 from UInt8.toNat_inj.1 e2]))
          clear hp1 hp2
          go_enter Tryd.func23, Tryd.ntmps23
          go_wp2_with fail
          refine HCUT.out.mono ?_
          rintro e w1 ⟨rfl, hb⟩
          have R1 : Blk w1 w.heap.size 31 _ := (Blk.new w _ _).keep (boxed hb) (by omega)
          have hb1 := unbox' hb
          clear hb
          go_wp2_with fail
          refine (vprefix text ⟨#[34]⟩ _).mono ?_
          rintro e w2 ⟨rfl, rfl⟩
          rw [HP1.out]
          go_wp2_with fail
          refine (vprefix text ⟨#[120]⟩ _).mono ?_
          rintro e w2 ⟨rfl, rfl⟩
          rw [HP2.out]
          go_wp2_with fail
          have Rx := R1.alloc (.cells #[.string nm, .int .i64 0, .int .i64 0, .string ⟨#[]⟩] 31)
          have Px := Blk.new w1 #[.string nm, .int .i64 0, .int .i64 0, .string ⟨#[]⟩] 31
          have hbx := hb1.alloc hb1.size (.cells #[.string nm, .int .i64 0, .int .i64 0, .string ⟨#[]⟩] 31)
          have hlw : w.heap.size < w1.heap.size := R1.lt
          have hne : w.heap.size ≠ w1.heap.size := Nat.ne_of_lt hlw
          clear R1 hb1
          by_cases hat : ∃ v, Lib.atoiAll text.data.toList = .ok v
          · obtain ⟨v, hv⟩ := hat
            have hvb := Lib.atoiAll_bounds hv
            have HV := Lib.hid hv
            have HVA := Lib.hid (vatoi_ok text hz2 v hv)
            clear hv
            refine (HVA.out _).mono ?_
            rintro e w3 ⟨rfl, hb3⟩
            have R3 := Rx.below hb3
            have P3 := Px.below hb3
            have hbw3 := below_then hbx hb3
            clear Rx Px hb3 hbx
            go_wp2_with fail
            refine (vitoa v hvb.1 hvb.2 _ (HE.out _ hbw3).pow).mono ?_
            rintro e w5 ⟨rfl, hb5⟩
            have R4 := R3.below hb5
            have P4 := P3.below hb5
            have hbw4 := below_then hbw3 hb5
            have hlt3 := P4.lt
            clear R3 P3 hb5 hbw3
            by_cases heq : numS v = text
            · have hbq := str_eq heq
              have HQ := Lib.hid heq
              clear heq
              have p0 := P4.cell 0
              have fp0 := P4.free 0
              have p1 := P4.cell 1
              have fp1 := P4.free 1
              have p2 := P4.cell 2
              have fp2 := P4.free 2
              have p3 := P4.cell 3
              have fp3 := P4.free 3
              go_wp2_with fail
              have Px := (P4.put 1 (.int .i64 1)).put 2 (.int .i64 v)
              have Rx := (R4.put_other (p := ⟨w1.heap.size, 1, none⟩) (.int .i64 1) hne).put_other (p := ⟨w1.heap.size, 2, none⟩) (.int .i64 v) hne
              have hbx := (hbw4.setCell (p := ⟨w1.heap.size, 1, none⟩) (by show _ ≤ w1.heap.size; omega) (.int .i64 1)).setCell (p := ⟨w1.heap.size, 2, none⟩) (by show _ ≤ w1.heap.size; omega) (.int .i64 v)
              clear p0 p1 p2 p3 fp0 fp1 fp2 fp3 P4 R4 hbw4
              have HTX := Lib.hid (show textS 1 v ⟨#[]⟩ = text from HQ.out)
              have HKD := Lib.hid (show KOk 1 v ⟨#[]⟩ from kok_one v)
              have HTZ := Lib.hid (show (⟨#[]⟩ : ByteArray).size ≤ 640 from by decide)
              have HNU := Lib.hid (show I64 v from hvb)
              refine (vcheck nm 1 v ⟨#[]⟩ _ (by unfold maxLen; omega) (by have := HTZ.out; unfold maxLen; omega)).mono ?_
              rintro e w4 ⟨rfl, hb4⟩
              have R4 := Rx.below hb4
              have P4 := Px.below hb4
              have hbw4 := below_then hbx hb4
              clear Rx Px hb4
              have r0 := R4.cell 0
              have fr0 := R4.free 0
              have r1 := R4.cell 1
              have fr1 := R4.free 1
              have r2 := R4.cell 2
              have fr2 := R4.free 2
              have r3 := R4.cell 3
              have fr3 := R4.free 3
              by_cases hck : checkE nm 1 v ⟨#[]⟩ = 0
              · have HR := Lib.hid (PIs.yes HC.out HNU.out hck HTX.out)
                rw [hck]
                clear hck
                have p0 := P4.cell 0
                have fp0 := P4.free 0
                have p1 := P4.cell 1
                have fp1 := P4.free 1
                have p2 := P4.cell 2
                have fp2 := P4.free 2
                have p3 := P4.cell 3
                have fp3 := P4.free 3
                go_wp2_with fail
                refine bodyPost_ret (parse_ret Tryd.func23 rfl _ _ w.heap.size _ _ _ _ rfl ((((R4.put 0 (.string nm)).put 1 (.int .i64 1)).put 2 (.int .i64 v)).put 3 (.string ⟨#[]⟩))) rfl ?_
                exact ⟨_, _, _, _, _, rfl, HR.out, (((hbw4.setCell (Nat.le_refl _) _).setCell (Nat.le_refl _) _).setCell (Nat.le_refl _) _).setCell (Nat.le_refl _) _⟩
              · have HR := Lib.hid (PIs.bad HC.out HKD.out HTZ.out hck HTX.out)
                have hck1 : (checkE nm 1 v ⟨#[]⟩ != 0) = true := by simpa using hck
                clear hck
                go_wp2_with fail
                refine bodyPost_ret (parse_ret Tryd.func23 rfl _ _ w.heap.size _ _ _ _ rfl ((((R4.put 0 (.string ⟨#[]⟩)).put 1 (.int .i64 0)).put 2 (.int .i64 0)).put 3 (.string ⟨#[]⟩))) rfl ?_
                exact ⟨_, _, _, _, _, rfl, HR.out, ((((hbw4).setCell (Nat.le_refl _) _).setCell (Nat.le_refl _) _).setCell (Nat.le_refl _) _).setCell (Nat.le_refl _) _⟩

            · have hbq := str_ne heq
              have HR := Lib.hid (none_quoted HC.out HNQ.out (fun m hm e => by
                have h1 := atoi_num hm e
                rw [HV.out] at h1
                injection h1 with h1
                subst h1
                exact heq e) HN.out)
              clear heq
              have r0 := R4.cell 0
              have fr0 := R4.free 0
              have r1 := R4.cell 1
              have fr1 := R4.free 1
              have r2 := R4.cell 2
              have fr2 := R4.free 2
              have r3 := R4.cell 3
              have fr3 := R4.free 3
              go_wp2_with fail
              refine bodyPost_ret (parse_ret Tryd.func23 rfl _ _ w.heap.size _ _ _ _ rfl ((((R4.put 0 (.string ⟨#[]⟩)).put 1 (.int .i64 0)).put 2 (.int .i64 0)).put 3 (.string ⟨#[]⟩))) rfl ?_
              exact ⟨_, _, _, _, _, rfl, HR.out, ((((hbw4).setCell (Nat.le_refl _) _).setCell (Nat.le_refl _) _).setCell (Nat.le_refl _) _).setCell (Nat.le_refl _) _⟩
          · have HR := Lib.hid (none_quoted HC.out HNQ.out (fun m hm e => hat ⟨m, atoi_num hm e⟩) HN.out)
            refine (vatoi_bad text hz2 (fun v hv => hat ⟨v, hv⟩) _ (HE.out _ hbx)).mono ?_
            rintro e w3 ⟨v, N, rfl, hb3⟩
            have R4 := Rx.below hb3
            have hbw4 := below_then hbx hb3
            clear Rx Px hb3 hbx hat
            have r0 := R4.cell 0
            have fr0 := R4.free 0
            have r1 := R4.cell 1
            have fr1 := R4.free 1
            have r2 := R4.cell 2
            have fr2 := R4.free 2
            have r3 := R4.cell 3
            have fr3 := R4.free 3
            go_wp2_with fail
            refine bodyPost_ret (parse_ret Tryd.func23 rfl _ _ w.heap.size _ _ _ _ rfl ((((R4.put 0 (.string ⟨#[]⟩)).put 1 (.int .i64 0)).put 2 (.int .i64 0)).put 3 (.string ⟨#[]⟩))) rfl ?_
            exact ⟨_, _, _, _, _, rfl, HR.out, ((((hbw4).setCell (Nat.le_refl _) _).setCell (Nat.le_refl _) _).setCell (Nat.le_refl _) _).setCell (Nat.le_refl _) _⟩

        · have HP2 := Lib.hid hp2
          clear hp1 hp2
          go_enter Tryd.func23, Tryd.ntmps23
          go_wp2_with fail
          refine HCUT.out.mono ?_
          rintro e w1 ⟨rfl, hb⟩
          have R1 : Blk w1 w.heap.size 31 _ := (Blk.new w _ _).keep (boxed hb) (by omega)
          have hb1 := unbox' hb
          clear hb
          go_wp2_with fail
          refine (vprefix text ⟨#[34]⟩ _).mono ?_
          rintro e w2 ⟨rfl, rfl⟩
          rw [HP1.out]
          go_wp2_with fail
          refine (vprefix text ⟨#[120]⟩ _).mono ?_
          rintro e w2 ⟨rfl, rfl⟩
          rw [HP2.out]
          go_wp2_with fail
          have Rx := R1.alloc (.cells #[.string nm, .int .i64 0, .int .i64 0, .string ⟨#[]⟩] 31)
          have Px := Blk.new w1 #[.string nm, .int .i64 0, .int .i64 0, .string ⟨#[]⟩] 31
          have hbx := hb1.alloc hb1.size (.cells #[.string nm, .int .i64 0, .int .i64 0, .string ⟨#[]⟩] 31)
          have hlw : w.heap.size < w1.heap.size := R1.lt
          have hne : w.heap.size ≠ w1.heap.size := Nat.ne_of_lt hlw
          clear R1 hb1
          refine (vunquote text _ hz2 (HE.out _ hbx).tab).mono ?_
          rintro e w3 ⟨rfl, hb3⟩
          have R4 := Rx.below hb3
          have P4 := Px.below hb3
          have hbw4 := below_then hbx hb3
          have hlt3 := P4.lt
          clear Rx Px hb3 hbx
          rcases unqE_cases text with hu | hu
          · obtain ⟨u1, u2⟩ := unq_text hu
            have HU1 := Lib.hid u1
            have HU2 := Lib.hid u2
            rw [hu]
            clear u1 u2 hu
            generalize unqS text = tx at *
            have p0 := P4.cell 0
            have fp0 := P4.free 0
            have p1 := P4.cell 1
            have fp1 := P4.free 1
            have p2 := P4.cell 2
            have fp2 := P4.free 2
            have p3 := P4.cell 3
            have fp3 := P4.free 3
            go_wp2_with fail
            have Px := (P4.put 1 (.int .i64 2)).put 3 (.string tx)
            have Rx := (R4.put_other (p := ⟨w1.heap.size, 1, none⟩) (.int .i64 2) hne).put_other (p := ⟨w1.heap.size, 3, none⟩) (.string tx) hne
            have hbx := (hbw4.setCell (p := ⟨w1.heap.size, 1, none⟩) (by show _ ≤ w1.heap.size; omega) (.int .i64 2)).setCell (p := ⟨w1.heap.size, 3, none⟩) (by show _ ≤ w1.heap.size; omega) (.string tx)
            clear p0 p1 p2 p3 fp0 fp1 fp2 fp3 P4 R4 hbw4
            have HTX := Lib.hid (show textS 2 0 tx = text from HU1.out)
            have HKD := Lib.hid (show KOk 2 0 tx from kok_two tx)
            have HTZ := Lib.hid (show (tx : ByteArray).size ≤ 640 from HU2.out)
            have HNU := Lib.hid (show I64 0 from by unfold I64; omega)
            refine (vcheck nm 2 0 tx _ (by unfold maxLen; omega) (by have := HTZ.out; unfold maxLen; omega)).mono ?_
            rintro e w4 ⟨rfl, hb4⟩
            have R4 := Rx.below hb4
            have P4 := Px.below hb4
            have hbw4 := below_then hbx hb4
            clear Rx Px hb4
            have r0 := R4.cell 0
            have fr0 := R4.free 0
            have r1 := R4.cell 1
            have fr1 := R4.free 1
            have r2 := R4.cell 2
            have fr2 := R4.free 2
            have r3 := R4.cell 3
            have fr3 := R4.free 3
            by_cases hck : checkE nm 2 0 tx = 0
            · have HR := Lib.hid (PIs.yes HC.out HNU.out hck HTX.out)
              rw [hck]
              clear hck
              have p0 := P4.cell 0
              have fp0 := P4.free 0
              have p1 := P4.cell 1
              have fp1 := P4.free 1
              have p2 := P4.cell 2
              have fp2 := P4.free 2
              have p3 := P4.cell 3
              have fp3 := P4.free 3
              go_wp2_with fail
              refine bodyPost_ret (parse_ret Tryd.func23 rfl _ _ w.heap.size _ _ _ _ rfl ((((R4.put 0 (.string nm)).put 1 (.int .i64 2)).put 2 (.int .i64 0)).put 3 (.string tx))) rfl ?_
              exact ⟨_, _, _, _, _, rfl, HR.out, (((hbw4.setCell (Nat.le_refl _) _).setCell (Nat.le_refl _) _).setCell (Nat.le_refl _) _).setCell (Nat.le_refl _) _⟩
            · have HR := Lib.hid (PIs.bad HC.out HKD.out HTZ.out hck HTX.out)
              have hck1 : (checkE nm 2 0 tx != 0) = true := by simpa using hck
              clear hck
              go_wp2_with fail
              refine bodyPost_ret (parse_ret Tryd.func23 rfl _ _ w.heap.size _ _ _ _ rfl ((((R4.put 0 (.string ⟨#[]⟩)).put 1 (.int .i64 0)).put 2 (.int .i64 0)).put 3 (.string ⟨#[]⟩))) rfl ?_
              exact ⟨_, _, _, _, _, rfl, HR.out, ((((hbw4).setCell (Nat.le_refl _) _).setCell (Nat.le_refl _) _).setCell (Nat.le_refl _) _).setCell (Nat.le_refl _) _⟩

          · have HR := Lib.hid (none_quoted HC.out (by rw [hu]; decide) (fun m _ e => by
              obtain ⟨c, r, e1, e2⟩ := numS_head m
              obtain ⟨r2, e3⟩ := prefix_yes HP2.out
              rw [e, e3] at e1
              injection e1 with e1
              rw [← e1] at e2
              exact absurd e2 (by decide)) HN.out)
            rw [hu]
            clear hu
            have r0 := R4.cell 0
            have fr0 := R4.free 0
            have r1 := R4.cell 1
            have fr1 := R4.free 1
            have r2 := R4.cell 2
            have fr2 := R4.free 2
            have r3 := R4.cell 3
            have fr3 := R4.free 3
            go_wp2_with fail
            refine bodyPost_ret (parse_ret Tryd.func23 rfl _ _ w.heap.size _ _ _ _ rfl ((((R4.put 0 (.string ⟨#[]⟩)).put 1 (.int .i64 0)).put 2 (.int .i64 0)).put 3 (.string ⟨#[]⟩))) rfl ?_
            exact ⟨_, _, _, _, _, rfl, HR.out, ((((hbw4).setCell (Nat.le_refl _) _).setCell (Nat.le_refl _) _).setCell (Nat.le_refl _) _).setCell (Nat.le_refl _) _⟩

      · have HP1 := Lib.hid hp1
        clear hp1
        go_enter Tryd.func23, Tryd.ntmps23
        go_wp2_with fail
        refine HCUT.out.mono ?_
        rintro e w1 ⟨rfl, hb⟩
        have R1 : Blk w1 w.heap.size 31 _ := (Blk.new w _ _).keep (boxed hb) (by omega)
        have hb1 := unbox' hb
        clear hb
        go_wp2_with fail
        refine (vprefix text ⟨#[34]⟩ _).mono ?_
        rintro e w2 ⟨rfl, rfl⟩
        rw [HP1.out]
        go_wp2_with fail
        have Rx := R1.alloc (.cells #[.string nm, .int .i64 0, .int .i64 0, .string ⟨#[]⟩] 31)
        have Px := Blk.new w1 #[.string nm, .int .i64 0, .int .i64 0, .string ⟨#[]⟩] 31
        have hbx := hb1.alloc hb1.size (.cells #[.string nm, .int .i64 0, .int .i64 0, .string ⟨#[]⟩] 31)
        have hlw : w.heap.size < w1.heap.size := R1.lt
        have hne : w.heap.size ≠ w1.heap.size := Nat.ne_of_lt hlw
        clear R1 hb1
        refine (vunquote text _ hz2 (HE.out _ hbx).tab).mono ?_
        rintro e w3 ⟨rfl, hb3⟩
        have R4 := Rx.below hb3
        have P4 := Px.below hb3
        have hbw4 := below_then hbx hb3
        have hlt3 := P4.lt
        clear Rx Px hb3 hbx
        rcases unqE_cases text with hu | hu
        · obtain ⟨u1, u2⟩ := unq_text hu
          have HU1 := Lib.hid u1
          have HU2 := Lib.hid u2
          rw [hu]
          clear u1 u2 hu
          generalize unqS text = tx at *
          have p0 := P4.cell 0
          have fp0 := P4.free 0
          have p1 := P4.cell 1
          have fp1 := P4.free 1
          have p2 := P4.cell 2
          have fp2 := P4.free 2
          have p3 := P4.cell 3
          have fp3 := P4.free 3
          go_wp2_with fail
          have Px := (P4.put 1 (.int .i64 2)).put 3 (.string tx)
          have Rx := (R4.put_other (p := ⟨w1.heap.size, 1, none⟩) (.int .i64 2) hne).put_other (p := ⟨w1.heap.size, 3, none⟩) (.string tx) hne
          have hbx := (hbw4.setCell (p := ⟨w1.heap.size, 1, none⟩) (by show _ ≤ w1.heap.size; omega) (.int .i64 2)).setCell (p := ⟨w1.heap.size, 3, none⟩) (by show _ ≤ w1.heap.size; omega) (.string tx)
          clear p0 p1 p2 p3 fp0 fp1 fp2 fp3 P4 R4 hbw4
          have HTX := Lib.hid (show textS 2 0 tx = text from HU1.out)
          have HKD := Lib.hid (show KOk 2 0 tx from kok_two tx)
          have HTZ := Lib.hid (show (tx : ByteArray).size ≤ 640 from HU2.out)
          have HNU := Lib.hid (show I64 0 from by unfold I64; omega)
          refine (vcheck nm 2 0 tx _ (by unfold maxLen; omega) (by have := HTZ.out; unfold maxLen; omega)).mono ?_
          rintro e w4 ⟨rfl, hb4⟩
          have R4 := Rx.below hb4
          have P4 := Px.below hb4
          have hbw4 := below_then hbx hb4
          clear Rx Px hb4
          have r0 := R4.cell 0
          have fr0 := R4.free 0
          have r1 := R4.cell 1
          have fr1 := R4.free 1
          have r2 := R4.cell 2
          have fr2 := R4.free 2
          have r3 := R4.cell 3
          have fr3 := R4.free 3
          by_cases hck : checkE nm 2 0 tx = 0
          · have HR := Lib.hid (PIs.yes HC.out HNU.out hck HTX.out)
            rw [hck]
            clear hck
            have p0 := P4.cell 0
            have fp0 := P4.free 0
            have p1 := P4.cell 1
            have fp1 := P4.free 1
            have p2 := P4.cell 2
            have fp2 := P4.free 2
            have p3 := P4.cell 3
            have fp3 := P4.free 3
            go_wp2_with fail
            refine bodyPost_ret (parse_ret Tryd.func23 rfl _ _ w.heap.size _ _ _ _ rfl ((((R4.put 0 (.string nm)).put 1 (.int .i64 2)).put 2 (.int .i64 0)).put 3 (.string tx))) rfl ?_
            exact ⟨_, _, _, _, _, rfl, HR.out, (((hbw4.setCell (Nat.le_refl _) _).setCell (Nat.le_refl _) _).setCell (Nat.le_refl _) _).setCell (Nat.le_refl _) _⟩
          · have HR := Lib.hid (PIs.bad HC.out HKD.out HTZ.out hck HTX.out)
            have hck1 : (checkE nm 2 0 tx != 0) = true := by simpa using hck
            clear hck
            go_wp2_with fail
            refine bodyPost_ret (parse_ret Tryd.func23 rfl _ _ w.heap.size _ _ _ _ rfl ((((R4.put 0 (.string ⟨#[]⟩)).put 1 (.int .i64 0)).put 2 (.int .i64 0)).put 3 (.string ⟨#[]⟩))) rfl ?_
            exact ⟨_, _, _, _, _, rfl, HR.out, ((((hbw4).setCell (Nat.le_refl _) _).setCell (Nat.le_refl _) _).setCell (Nat.le_refl _) _).setCell (Nat.le_refl _) _⟩

        · have HR := Lib.hid (none_quoted HC.out (by rw [hu]; decide) (fun m _ e => by
            obtain ⟨c, r, e1, e2⟩ := numS_head m
            obtain ⟨r2, e3⟩ := prefix_yes HP1.out
            rw [e, e3] at e1
            injection e1 with e1
            rw [← e1] at e2
            exact absurd e2 (by decide)) HN.out)
          rw [hu]
          clear hu
          have r0 := R4.cell 0
          have fr0 := R4.free 0
          have r1 := R4.cell 1
          have fr1 := R4.free 1
          have r2 := R4.cell 2
          have fr2 := R4.free 2
          have r3 := R4.cell 3
          have fr3 := R4.free 3
          go_wp2_with fail
          refine bodyPost_ret (parse_ret Tryd.func23 rfl _ _ w.heap.size _ _ _ _ rfl ((((R4.put 0 (.string ⟨#[]⟩)).put 1 (.int .i64 0)).put 2 (.int .i64 0)).put 3 (.string ⟨#[]⟩))) rfl ?_
          exact ⟨_, _, _, _, _, rfl, HR.out, ((((hbw4).setCell (Nat.le_refl _) _).setCell (Nat.le_refl _) _).setCell (Nat.le_refl _) _).setCell (Nat.le_refl _) _⟩
end Go.Proofs.YthidojkckhjciaaDoor

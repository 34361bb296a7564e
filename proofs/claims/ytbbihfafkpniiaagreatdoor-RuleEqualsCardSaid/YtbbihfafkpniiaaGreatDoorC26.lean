/- Texts of one proof, laid together. -/
import Derived.Test.YtbbihfafkpniiaaGreatDoorC25
import Derived.Test.YtbbihfafkpniiaaGreatDoorC18
import Derived.Test.YtbbihfafkpniiaaGreatDoorC11
import Derived.Test.YtbbihfafkpniiaaGreatDoorC02
import Derived.SliceStrings
import Derived.Laws.IdiomArrays
import Derived.Test.YtbbihfafkpniiaaGreatDoorRows
import Derived.Test.YtbbihfafkpniiaaGreatDoorC09
import Derived.Test.YtbbihfafkpniiaaGreatDoorC12
import Derived.LaidLaws
import Derived.Shelf.Vars
/- Parse of the program's rules, of a shorthand. -/
namespace Go.Proofs.YtbbihfafkpniiaaGreatDoor
open Go.RowKit
theorem rul_ret2 {fn : Func} (h : fn.results = #[.cell 2 26, .tmp 3]) (tmps : Array Value) (w : World) (g : Nat) (r : Rul) (v : Value) (hp : tmps.getD 2 undef = .pointer (some ⟨g, 0, none⟩)) (hg : RulB w g r v) :
    (results fn tmps).run Tryz.prog w = .ok (.tuple #[rulV r v, tmps.getD 3 undef]) w :=
  results_cell_tmpF h tmps w g _ (rulC r v) _ hp hg Tryz.underlying26 rfl (rul_sz r v)
theorem put_none0 (a : Act) (v : Value) : a.put none v = a := rfl
attribute [local irreducible] unqS unqE quoteS permS permL checkR shortT textR
set_option maxRecDepth 100000 in
set_option maxHeartbeats 4000000 in
theorem vparseA (s : ByteArray) (hs : s.size ≤ 100000) (w : World) (hG : RGlob w) (hE : Env w) (h0 : ∀ ws, IsW 32 s ws → wordAt ws 0 = fW ∨ wordAt ws 0 = fT) :
    Calls Tryz.prog 28 #[.string s] w (RParsePost s w) := by
  have HG := Lib.hid (fun (W : World) (h : Below w.heap.size w W) => hG.below h)
  have HE := Lib.hid (fun (W : World) (h : Below w.heap.size w W) => hE.below h)
  have HGG := Lib.hid hG
  have HEE := Lib.hid hE
  have H0 := Lib.hid h0
  obtain ⟨z0, b0⟩ := rul_box w zeroR noT
  have Z0 := Lib.hid z0
  have B0 := Lib.hid b0
  clear hG hE h0 z0 b0
  go_enter Tryz.func28, Tryz.ntmps28
  go_wp2_with fail
  refine (vsplit s hs _ (HE.out _ B0.out).mx).mono ?_
  rintro e w1 ⟨x, R, ad, rfl, hw, hS, hb1⟩
  obtain ⟨n, hn⟩ : ∃ n, n = R.length + 1 := ⟨_, rfl⟩
  have hsz := hw.size
  have hx0 := H0.out _ hw
  have hrd := rd_new w1 ad (x :: R) n hn (by have := hsz.1; rw [List.length_cons] at this; omega) hS
  rw [← hn]
  have hlen : n = (x :: R).length := hn
  clear hn
  generalize x :: R = ws at *
  have st0 : PaSt w (w1.alloc (.cells (rdC (.slice (some ad) n n) 0 false) 74)) w1.heap.size (some ad) n n ws 0 false :=
    ⟨Blk.alloc (Blk.below Z0.out hb1) _, hrd, (below_then B0.out hb1).alloc (below_then B0.out hb1).size _, by have := (Blk.below Z0.out hb1).lt; exact this⟩
  have HW := Lib.hid hw
  have HSZ := Lib.hid (show ∀ x ∈ ws, x.size ≤ 100000 from fun x hx => by have := hsz.2 x hx; omega)
  have HLEN := Lib.hid hlen
  have HX0 := Lib.hid hx0
  have ST0 := Lib.hid st0
  clear hw hS hb1 hsz hrd st0 hlen hx0
  go_upto_region 2 with (fail)
  go_cut [5] (fun v wx => v = .bool true ∧ PaSt w wx w1.heap.size (some ad) n n ws 0 false)
  case first =>
    have HP := Lib.hid (fun W (h : PaSt w W w1.heap.size (some ad) n n ws 0 false) => vpeek ws (some ad) n n 0 false w1.heap.size W h.rd)
    rcases HX0.out with h | h
    · have t1 := lit_eq fW_l h
      clear h
      generalize wordAt ws 0 = x0 at *
      go_wp2_with fail
      refine (HP.out _ ST0.out).mono ?_
      rintro e w2 ⟨rfl, m, rfl⟩
      go_wp2_with fail
      go_meet
      exact ⟨rfl, ST0.out.drewN _⟩
    · have t1 := lit_ne fW_l (show wordAt ws 0 ≠ fW by rw [h]; decide)
      have t2 := lit_eq fT_l h
      clear h
      generalize wordAt ws 0 = x0 at *
      go_wp2_with fail
      refine (HP.out _ ST0.out).mono ?_
      rintro e w2 ⟨rfl, m, rfl⟩
      go_wp2_with fail
      refine (HP.out _ (ST0.out.drewN _)).mono ?_
      rintro e w2 ⟨rfl, m2, rfl⟩
      go_wp2_with fail
      go_meet
      exact ⟨rfl, ST0.out.drewN _⟩
  case rest =>
  obtain ⟨rfl, st1⟩ := hcut
  have hlt1 := st1.rd.lt
  obtain ⟨hz2, hb2⟩ := rul_box wc zeroR noT
  have st2 := st1.alloc (.cells (rulC zeroR noT) 26)
  have ST2 := Lib.hid st2
  have HZ2 := Lib.hid hz2
  have HGL := Lib.hid (show Gl w w1.heap.size (wc.alloc (.cells (rulC zeroR noT) 26)) from ⟨HGG.out, HEE.out, st2.low, Nat.le_of_lt st2.lt⟩)
  clear st1 st2 hz2 hb2 ST0
  go_wp2_with fail
  refine (vshorthand ws HSZ.out (some ad) n n w1.heap.size w _ ST2.out.rd HGL.out).mono ?_
  rintro e w3 ⟨r, k', b', rfl, hh, hrd, hc, ho⟩
  have st3 := ST2.out.to hrd (ho.below (Nat.le_refl _) (Nat.le_of_lt ST2.out.rd.lt))
  have hx3 := Blk.onlyR HZ2.out ho (by omega)
  have ST3 := Lib.hid st3
  have HX3 := Lib.hid hx3
  have HC := Lib.hid hc
  have HH := Lib.hid hh
  have hltg : wc.heap.size < w3.heap.size := hx3.lt
  clear hrd ho st3 hx3 hc hh ST2 HZ2 HGL
  go_upto_region 7 with ((with_reducible refine store_blk ?_ 26 (.tmp 6) (.tmp 22) ?_ HX3.out (rulC r noT) ?_ ?_ ?_ ?_ ?_ ?_); (iterate 4 rfl); (exact rul_sz _ _); rfl; (exact rul_one _ _ _ _))
  simp only [put_none0]
  have st4 := ST3.out.row HX3.out hlt1 r none 0 0 (by rw [HH.out.ts]; exact TestsAt.nil)
  clear ST3 HX3 hlt1 hltg
  generalize wc.heap.size = gr at *
  generalize w3.setRow gr (rulC r (.slice none 0 0)) = w4 at *
  generalize w1.heap.size = g at *
  have ST4 := Lib.hid st4
  have k0 := RdB.c0 st4.p.rd.blk
  have k1 := RdB.c1 st4.p.rd.blk
  have k2 := RdB.c2 st4.p.rd.blk
  clear st4
  have HCK := Lib.hid (fun W => vcheckR r none 0 0 (by rw [HH.out.ts]; rfl) (hand_siz HH.out) W (by rw [HH.out.ts]; exact TestsAt.nil))
  go_cut [45] (fun v wx => VerdR b' k' n r v ∧ QaSt w wx g (some ad) n n ws k' b' gr r none 0 0)
  case first =>
    cases b'
    · by_cases hk : k' = n
      · have d1 : ((k' : Int) != (n : Int)) = false := by simp; omega
        have HK := Lib.hid hk
        clear hk
        go_still_tail 17, (by kernel_rfl)
        refine load_blk_gR ?_ 26 (.tmp 6) ?_ ST4.out.drew.x ?_ _ Tryz.underlying26 ?_ ?_ ?_
        · rfl
        · rfl
        · rfl
        · rfl
        · exact rul_sz _ _
        go_wp2_with fail
        refine (HCK.out _).mono ?_
        rintro e w5 ⟨rfl, hb5⟩
        have ST5 := Lib.hid (ST4.out.drew.below hb5)
        clear hb5 k0 k1 k2
        by_cases he : checkR r = 0
        · have t1 : (checkR r != 0) = false := by rw [he]; rfl
          have HE0 := Lib.hid he
          clear he
          go_wp2_with fail
          go_meet
          exact ⟨verd_ok HK.out HE0.out, ST5.out⟩
        · have t1 : (checkR r != 0) = true := by simpa using he
          have HE0 := Lib.hid he
          clear he
          go_wp2_with fail
          go_meet
          exact ⟨verd_chk HE0.out, ST5.out⟩
      · have d1 : ((k' : Int) != (n : Int)) = true := by simp; omega
        have HK := Lib.hid hk
        clear hk
        go_quiet (fail)
        go_wp2_with fail
        go_meet
        exact ⟨verd_at HK.out, ST4.out.drewN _⟩
    · go_quiet (fail)
      go_wp2_with fail
      go_meet
      exact ⟨verd_bad, ST4.out.drewN _⟩
  case rest =>
  obtain ⟨⟨t, rfl, ht1, ht2⟩, st5⟩ := hcut
  clear k0 k1 k2 ST4
  have ST5 := Lib.hid st5
  have HT := Lib.hid (And.intro ht1 ht2)
  clear st5 ht1 ht2
  have HN := Lib.hid (fun hno => no_hand (s := s) (r := r) HW.out HX0.out HC.out hno)
  cases t
  · obtain ⟨hk1, hk2, hk3⟩ := HT.out.1 rfl
    have hw2 := HH.out.wa
    have hwo : r.pa.size ≤ 128 := by
      rcases watch_ok (checkR_zero hk3) with ⟨z, _⟩ | ⟨_, _, _, z4, _⟩
      · omega
      · exact z4
    have HSH := Lib.hid (fun W (h : Below w.heap.size w W) => vshortT r none 0 0 hw2 hwo HH.out.pe (checkR_zero hk3).key W (HG.out _ h).tb (HG.out _ h).pb)
    have HGD := Lib.hid (hand_good HH.out hk3)
    have HNO := Lib.hid (fun h : shortT r ≠ s => HN.out (fun hh => h hh.2.2.2))
    clear hk1 hk2 hk3 hw2 hwo HN HT
    go_wp2_with ((with_reducible refine load_blk ?_ 26 (.tmp 6) ?_ ST5.out.x ?_ _ Tryz.underlying26 ?_ ?_ ?_); (iterate 4 rfl); exact rul_sz _ _)
    refine (HSH.out _ ST5.out.p.low).mono ?_
    rintro e w6 ⟨rfl, hb6⟩
    have ST6 := Lib.hid (ST5.out.below hb6)
    clear hb6 ST5
    by_cases he : shortT r = s
    · have HR := Lib.hid (show RIs s r 0 from .inl ⟨rfl, HGD.out.1, .inr ⟨HGD.out.2, he⟩⟩)
      have t1 := str_eq he
      clear he
      go_wp2_with (first | ((with_reducible refine load_blk ?_ 26 (.tmp 6) ?_ ST6.out.x ?_ _ Tryz.underlying26 ?_ ?_ ?_); (iterate 4 rfl); exact rul_sz _ _) | ((with_reducible refine store_blk ?_ 26 (.tmp 2) (.tmp 59) ?_ ST6.out.p.z (rulC r (.slice none 0 0)) ?_ ?_ ?_ ?_ ?_ ?_); (iterate 4 rfl); (exact rul_sz _ _); rfl; (exact rul_one _ _ _ _)))
      refine bodyPost_ret (rul_ret2 (fn := Tryz.f28) rfl _ _ w.heap.size r (.slice none 0 0) rfl (ST6.out.out _ _).1) rfl ?_
      exact ⟨r, none, 0, 0, 0, rfl, by rw [HH.out.ts]; rfl, HR.out, by rw [HH.out.ts]; exact TestsAt.nil, (ST6.out.out _ _).2⟩
    · have HR := Lib.hid (HNO.out he)
      have t1 := str_ne he
      clear he
      go_wp2_with ((with_reducible refine store_blk ?_ 26 (.tmp 2) (.tmp 58) ?_ ST6.out.p.z (rulC zeroR noT) ?_ ?_ ?_ ?_ ?_ ?_); (iterate 4 rfl); (exact rul_sz _ _); rfl; (exact rul_one _ _ _ _))
      refine bodyPost_ret (rul_ret2 (fn := Tryz.f28) rfl _ _ w.heap.size zeroR noT rfl (ST6.out.out _ _).1) rfl ?_
      exact ⟨zeroR, none, 0, 0, 136, rfl, rfl, HR.out, TestsAt.nil, (ST6.out.out _ _).2⟩
  · have HR := Lib.hid (HN.out (fun h => HT.out.2 rfl ⟨h.1, h.2.1, h.2.2.1⟩))
    clear HN HT HC
    go_wp2_with ((with_reducible refine store_blk ?_ 26 (.tmp 2) (.tmp 46) ?_ ST5.out.p.z (rulC zeroR noT) ?_ ?_ ?_ ?_ ?_ ?_); (iterate 4 rfl); (exact rul_sz _ _); rfl; (exact rul_one _ _ _ _))
    refine bodyPost_ret (rul_ret2 (fn := Tryz.f28) rfl _ _ w.heap.size zeroR noT rfl (ST5.out.out _ _).1) rfl ?_
    exact ⟨zeroR, none, 0, 0, 136, rfl, rfl, HR.out, TestsAt.nil, (ST5.out.out _ _).2⟩
end Go.Proofs.YtbbihfafkpniiaaGreatDoor
/- The law's awake: a shorthand is read, and the rule's text is the one that is wanted. -/
namespace Go.Proofs.YtbbihfafkpniiaaGreatDoor
open Go.RowKit
def awR : Rul := ⟨3, 1, allCalls, [], 1, ⟨#[47, 97, 47, 98]⟩, 10, ⟨#[120]⟩⟩
def awS : ByteArray := ⟨#[45, 119, 32, 34, 47, 97, 47, 98, 34, 32, 45, 112, 32, 119, 97, 32, 45, 107, 32, 34, 120, 34]⟩
def awT : ByteArray := ⟨#[45, 97, 32, 97, 108, 119, 97, 121, 115, 44, 101, 120, 105, 116, 32, 45, 83, 32, 97, 108, 108, 32, 45, 70, 32, 112, 97, 116, 104, 61, 34, 47, 97, 47, 98, 34, 32, 45, 70, 32, 112, 101, 114, 109, 61, 119, 97, 32, 45, 107, 32, 34, 120, 34]⟩
theorem awR_ok : checkR awR = 0 := by decide +kernel
theorem awR_short : shortB awR = true := by decide +kernel
theorem awR_s : shortT awR = awS := bytes_ext (by decide +kernel)
theorem awR_t : textR awR = awT := bytes_ext (by decide +kernel)
theorem awR_good : GoodR awR := ⟨awR_ok, fun t ht => by cases ht⟩
theorem awR_is : RIs awS awR 0 := .inl ⟨rfl, awR_good, .inr ⟨awR_short, awR_s⟩⟩
theorem awR_fmt : fmtV awR = .tuple #[.string awT, .int .i64 0] := by unfold fmtV; rw [awR_ok]; unfold fmtR; rw [if_pos awR_ok, awR_t]
theorem awS_w : ∀ ws, IsW 32 awS ws → wordAt ws 0 = fW ∨ wordAt ws 0 = fT := fun ws hw => by
  rw [words_of_short awR_s hw]
  exact .inl rfl
theorem awT_l : awT.toList = [45, 97, 32, 97, 108, 119, 97, 121, 115, 44, 101, 120, 105, 116, 32, 45, 83, 32, 97, 108, 108, 32, 45, 70, 32, 112, 97, 116, 104, 61, 34, 47, 97, 47, 98, 34, 32, 45, 70, 32, 112, 101, 114, 109, 61, 119, 97, 32, 45, 107, 32, 34, 120, 34] := by decide +kernel
attribute [local irreducible] awR awS awT fmtV
set_option maxRecDepth 100000 in
set_option maxHeartbeats 4000000 in
theorem awakeR (w : World) (hG : RGlob w) (hE : Env w) : Calls Tryz.prog 11 #[] w fun e w' => e = .returned (.bool true) ∧ Below w.heap.size w w' := by
  have HG := Lib.hid (fun (W : World) (h : Below w.heap.size w W) => hG.below h)
  have HP := Lib.hid (show Calls Tryz.prog 28 #[.string ⟨#[45, 119, 32, 34, 47, 97, 47, 98, 34, 32, 45, 112, 32, 119, 97, 32, 45, 107, 32, 34, 120, 34]⟩] w (RParsePost awS w) from by
    have := vparseA awS (by unfold awS; decide) w hG hE awS_w
    unfold awS at this ⊢
    exact this)
  clear hG hE
  go_enter Tryz.func11, Tryz.ntmps11
  go_wp2_with fail
  refine HP.out.mono ?_
  rintro e w1 ⟨r, A, n, c, er, rfl, hn, hr, ht, hb⟩
  obtain ⟨hr1, hr2⟩ := hr.unique awR_is
  subst hr1 hr2
  clear hr HP
  have hx := rul_box w1 awR (.slice A n c)
  have HB2 := Lib.hid (below_then hb hx.2)
  have HT2 := Lib.hid ((ht.keep hx.2 (Nat.le_refl _)).more hx.2.size)
  have HX := Lib.hid hx.1
  have HN := Lib.hid hn
  have HF := Lib.hid (show Calls Tryz.prog 25 #[rulV awR (.slice A n c)] (w1.alloc (.cells (rulC awR (.slice A n c)) 26)) fun e w' => e = .returned (.tuple #[.string awT, .int .i64 0]) ∧ Below (w1.alloc (.cells (rulC awR (.slice A n c)) 26)).heap.size (w1.alloc (.cells (rulC awR (.slice A n c)) 26)) w' by
    have := vformatR awR A n c hn (good_siz awR_good) awR_good.nums _ HT2.out (HG.out _ HB2.out)
    rw [awR_fmt] at this
    exact this)
  clear hx hb ht hn
  go_wp2_with ((with_reducible refine load_blk ?_ 26 (.tmp 1) ?_ HX.out ?_ _ Tryz.underlying26 ?_ ?_ ?_); (iterate 4 rfl); exact rul_sz _ _)
  refine HF.out.mono ?_
  rintro e w3 ⟨rfl, hb3⟩
  have HB3 := Lib.hid (below_then HB2.out hb3)
  have t1 : (awT.toList == [45, 97, 32, 97, 108, 119, 97, 121, 115, 44, 101, 120, 105, 116, 32, 45, 83, 32, 97, 108, 108, 32, 45, 70, 32, 112, 97, 116, 104, 61, 34, 47, 97, 47, 98, 34, 32, 45, 70, 32, 112, 101, 114, 109, 61, 119, 97, 32, 45, 107, 32, 34, 120, 34]) = true := by rw [awT_l]; rfl
  clear hb3 HF HT2
  go_wp2_with fail
  go_ret
  exact ⟨rfl, HB3.out⟩
end Go.Proofs.YtbbihfafkpniiaaGreatDoor
/- The law's light: bounds on a rule's sizes. -/
namespace Go.Proofs.YtbbihfafkpniiaaGreatDoor
open Go.RowKit
/-- What light tells. -/
def lightB (r : Rul) : Bool := decide (r.ts.length ≤ 12) && decide (r.pa.size ≤ 300) && decide (r.ke.size ≤ 100) && r.ts.all (fun t => decide (t.tx.size ≤ 700))
theorem light_siz {r : Rul} (h : lightB r = true) (hca : r.ca < 18446744073709551616) : SizR r := by
  unfold lightB at h
  simp only [Bool.and_eq_true, decide_eq_true_eq, List.all_eq_true] at h
  obtain ⟨⟨⟨h1, h2⟩, h3⟩, h4⟩ := h
  exact ⟨by omega, by omega, by omega, fun t ht => by have := h4 t ht; unfold maxLen; omega, by omega⟩
def lightK (ts : List Tst) (k : Nat) : Prop := ∀ j (hj : j < ts.length), j < k → (ts[j]'hj).tx.size ≤ 700
theorem light_no1 {r : Rul} (h : ¬ r.ts.length ≤ 12) : lightB r = false := by unfold lightB; simp [h]
theorem light_no2 {r : Rul} (h : ¬ r.pa.size ≤ 300) : lightB r = false := by unfold lightB; simp [h]
theorem light_no3 {r : Rul} (h : ¬ r.ke.size ≤ 100) : lightB r = false := by unfold lightB; simp [h]
theorem light_no4 {r : Rul} {k : Nat} (hk : k < r.ts.length) (h : ¬ (r.ts[k]'hk).tx.size ≤ 700) : lightB r = false := by
  unfold lightB
  have : r.ts.all (fun t => decide (t.tx.size ≤ 700)) = false := by
    rw [List.all_eq_false]
    exact ⟨_, List.getElem_mem hk, by simpa using h⟩
  rw [this]; simp
theorem light_yes {r : Rul} (h1 : r.ts.length ≤ 12) (h2 : r.pa.size ≤ 300) (h3 : r.ke.size ≤ 100) (h4 : lightK r.ts r.ts.length) : lightB r = true := by
  unfold lightB
  simp only [Bool.and_eq_true, decide_eq_true_eq, List.all_eq_true]
  refine ⟨⟨⟨h1, h2⟩, h3⟩, fun t ht => ?_⟩
  obtain ⟨j, hj, rfl⟩ := List.getElem_of_mem ht
  exact h4 j hj hj
attribute [local irreducible] lightB
set_option maxRecDepth 100000 in
set_option maxHeartbeats 4000000 in
theorem vlight (r : Rul) (A : Option Addr) (n c : Nat) (hn : n = r.ts.length) (hm : n ≤ maxLen ∧ r.pa.size ≤ maxLen ∧ r.ke.size ≤ maxLen ∧ ∀ t ∈ r.ts, t.tx.size ≤ maxLen) (w : World) (hT : TestsAt w w.heap.size A r.ts) :
    Calls Tryz.prog 10 #[rulV r (.slice A n c)] w fun e w' => e = .returned (.bool (lightB r)) ∧ Below w.heap.size w w' := by
  obtain ⟨HG0, HB0⟩ := rul_box w r (.slice A n c)
  have HT := Lib.hid (hT.keep HB0 (Nat.le_refl _))
  have HB := Lib.hid HB0
  have HN := Lib.hid hn
  obtain ⟨m1, m2, m3, m4⟩ := hm
  have HM4 := Lib.hid m4
  unfold maxLen at m1 m2 m3
  clear hT HG0 HB0 hn m4
  by_cases h1 : n ≤ 12
  case neg =>
    have HR := Lib.hid (light_no1 (r := r) (by rw [← HN.out]; exact h1))
    have h1' : 12 < n := by omega
    clear h1
    go_enter Tryz.func10, Tryz.ntmps10
    go_wp2_with fail
    go_ret
    exact ⟨congrArg (fun b => Ending.returned (.bool b)) HR.out.symm, HB.out⟩
  by_cases h2 : r.pa.size ≤ 300
  case neg =>
    have HR := Lib.hid (light_no2 h2)
    have h2' : 300 < r.pa.size := by omega
    clear h2
    go_enter Tryz.func10, Tryz.ntmps10
    go_wp2_with fail
    go_ret
    exact ⟨congrArg (fun b => Ending.returned (.bool b)) HR.out.symm, HB.out⟩
  by_cases h3 : r.ke.size ≤ 100
  case neg =>
    have HR := Lib.hid (light_no3 h3)
    have h3' : 100 < r.ke.size := by omega
    clear h3
    go_enter Tryz.func10, Tryz.ntmps10
    go_wp2_with fail
    go_ret
    exact ⟨congrArg (fun b => Ending.returned (.bool b)) HR.out.symm, HB.out⟩
  have HY := Lib.hid (fun h => light_yes (r := r) (by rw [← HN.out]; exact h1) h2 h3 h)
  go_enter Tryz.func10, Tryz.ntmps10
  go_wp2_with fail
  go_loop [3] (fun i => ∃ k : Nat, k ≤ n ∧ i = .int .i64 (k : Int) ∧ Hid (lightK r.ts k)) (fun i => n - (intOf i).toNat)
  case atStart => exact ⟨0, Nat.zero_le _, rfl, fun j hj h => by omega⟩
  case round =>
    obtain ⟨k, hk, rfl, hno⟩ := hrel
    by_cases hlt : k < n
    · have hkl : k < r.ts.length := by rw [← HN.out]; exact hlt
      obtain ⟨ad, rfl, hadb, t0, t1, t2, t3, t4⟩ := HT.out.cells hkl
      have HS := Lib.hid (fun h => light_no4 hkl h)
      have HNXT := Lib.hid (show (r.ts[k]'hkl).tx.size ≤ 700 → lightK r.ts (k + 1) from fun h j hj hjk => by
        by_cases e : j = k
        · subst e; exact h
        · exact hno.out j hj (by omega))
      have hmx : (r.ts[k]'hkl).tx.size ≤ maxLen := HM4.out _ (List.getElem_mem hkl)
      unfold maxLen at hmx
      clear hno t0 t1 t2 t4
      generalize (r.ts[k]'hkl).tx = X at *
      by_cases hx : X.size ≤ 700
      · have HN2 := Lib.hid (HNXT.out hx)
        go_wp2_with fail
        go_round
        case rel => exact ⟨k + 1, by omega, by go_num, HN2.out⟩
        case measure => simp [intOf]; omega
      · have HR := Lib.hid (HS.out hx)
        have hx' : 700 < X.size := by omega
        clear hx
        go_wp2_with fail
        go_ret
        exact ⟨congrArg (fun b => Ending.returned (.bool b)) HR.out.symm, HB.out⟩
    · have hkn : k = n := by omega
      subst hkn
      have HR := Lib.hid (HY.out (by rw [← HN.out]; exact hno.out))
      clear hno hlt
      go_wp2_with fail
      go_ret
      exact ⟨congrArg (fun b => Ending.returned (.bool b)) HR.out.symm, HB.out⟩
end Go.Proofs.YtbbihfafkpniiaaGreatDoor
/- A rule that came in. -/
namespace Go.Proofs.YtbbihfafkpniiaaGreatDoor
open Go.ChangeShapes Go.WideShapes Go.RowKit Go.Joins Go.Deep
theorem listF5 {α : Type} {l : List α} (h : l.length = 5) : ∃ c0 c1 c2 c3 c4, l = [c0, c1, c2, c3, c4] := by
  match l, h with
  | [c0, c1, c2, c3, c4], _ => exact ⟨c0, c1, c2, c3, c4, rfl⟩
theorem listF8 {α : Type} {l : List α} (h : l.length = 8) : ∃ c0 c1 c2 c3 c4 c5 c6 c7, l = [c0, c1, c2, c3, c4, c5, c6, c7] := by
  match l, h with
  | [c0, c1, c2, c3, c4, c5, c6, c7], _ => exact ⟨c0, c1, c2, c3, c4, c5, c6, c7, rfl⟩
theorem mapM_get {α β : Type} {f : α → Option β} : ∀ {l : List α} {r : List β}, l.mapM f = some r → r.length = l.length ∧ ∀ i (hi : i < l.length), f (l[i]'hi) = r[i]?
  | [], r, h => by
    simp at h; subst h; simp
  | x :: l, r, h => by
    rw [List.mapM_cons] at h
    cases hx : f x with
    | none => rw [hx] at h; cases h
    | some y =>
      cases hm : l.mapM f with
      | none => rw [hx, hm] at h; cases h
      | some ys =>
        rw [hx, hm] at h
        simp at h
        subst h
        obtain ⟨h1, h2⟩ := mapM_get hm
        refine ⟨by simp [h1], fun i hi => ?_⟩
        cases i with
        | zero => simpa using hx
        | succ i => simpa using h2 i (by simpa using hi)
theorem cells_each {w : World} {base n : Nat} {a : Addr} {cs : List Value} (h : w.cells? base a n = some cs) : cs.length = n ∧ ∀ j, j < n → w.cell? (a.add j) = cs[j]? := by
  unfold World.cells? at h
  split at h
  · obtain ⟨h1, h2⟩ := mapM_get h
    refine ⟨by simpa using h1, fun j hj => ?_⟩
    have := h2 j (by simpa using hj)
    simpa using this
  · cases h
section
variable {H : Type} {enc : TypeId × Value → H} {W : World} {base : Nat} {sp : Nat → Bool} {held : Bool}
theorem field_some {P : Program} {n : Nat} {fs : Array Field} {cs : List Value} {xs : List (DataW H × List MemPlace)} (hg : ∀ (i : Nat) (f : Field), fs[i]? = some f → DataW.trod enc P W base sp held n f.type ((cs.drop f.offset).take (P.cellsOf f.type)) = xs[i]?) (hl : xs.length = fs.size) (i : Nat) (ty : TypeId) (off k : Nat)
    (h : (fs[i]?).map (fun f => (f.type, f.offset)) = some (ty, off)) (hk : P.cellsOf ty = k) : ∃ y, y ∈ xs ∧ DataW.trod enc P W base sp held n ty ((cs.drop off).take k) = some y := by
  have h1 := field_of hg i ty off k h hk
  have hi : i < fs.size := by
    rcases Nat.lt_or_ge i fs.size with hlt | hge
    · exact hlt
    · rw [Array.getElem?_eq_none hge] at h; cases h
  rw [List.getElem?_eq_getElem (by omega)] at h1
  exact ⟨_, List.getElem_mem _, h1⟩
theorem int_of {n : Nat} {v : Value} {y : DataW H × List MemPlace} (h : DataW.trod enc Tryz.prog W base sp held n 3 [v] = some y) : ∃ z : Int, v = .int .i64 z ∧ -9223372036854775808 ≤ z ∧ z ≤ 9223372036854775807 := by
  obtain ⟨z, e, _, w0⟩ := DataW.trod_int Tryz.underlying3 h
  injection e with e
  exact ⟨z, e, bounds_i64 w0⟩
theorem str_of {n : Nat} {v : Value} {y : DataW H × List MemPlace} (h : DataW.trod enc Tryz.prog W base sp held n 9 [v] = some y) : ∃ s : ByteArray, v = .string s ∧ s.size ≤ maxLen := by
  obtain ⟨s, e, _, w0⟩ := DataW.trod_string Tryz.underlying9 h
  injection e with e
  exact ⟨s, e, w0⟩
theorem mask_of {n : Nat} {v : Value} {y : DataW H × List MemPlace} (h : DataW.trod enc Tryz.prog W base sp held n 23 [v] = some y) : ∃ z : Nat, v = .int .u64 (z : Int) ∧ z < 18446744073709551616 := by
  obtain ⟨z, e, _, w0⟩ := DataW.trod_int Tryz.underlying23 h
  injection e with e
  have hb := bounds_u64 w0
  obtain ⟨k, rfl⟩ := Int.eq_ofNat_of_zero_le hb.1
  exact ⟨k, e, by omega⟩
theorem tst_of {n : Nat} {cs : List Value} {y : DataW H × List MemPlace} (h : DataW.trod enc Tryz.prog W base sp held n 40 cs = some y) : ∃ t : Tst, cs = (tstC t).toList ∧ I64 t.nu ∧ t.tx.size ≤ maxLen := by
  obtain ⟨xs, m, _, hx, hc, hlen, hg⟩ := DataW.trod_struct Tryz.underlying40 h
  obtain ⟨c0, c1, c2, c3, c4, rfl⟩ := listF5 (hc.trans (show Tryz.prog.cellsOf 40 = 5 by kernel_rfl))
  obtain ⟨_, _, g0⟩ := field_some hg hlen 0 3 0 1 rfl (by kernel_rfl)
  obtain ⟨_, _, g1⟩ := field_some hg hlen 1 3 1 1 rfl (by kernel_rfl)
  obtain ⟨_, _, g2⟩ := field_some hg hlen 2 3 2 1 rfl (by kernel_rfl)
  obtain ⟨_, _, g3⟩ := field_some hg hlen 3 9 3 1 rfl (by kernel_rfl)
  obtain ⟨_, _, g4⟩ := field_some hg hlen 4 3 4 1 rfl (by kernel_rfl)
  obtain ⟨fd, rfl, _⟩ := int_of g0
  obtain ⟨op, rfl, _⟩ := int_of g1
  obtain ⟨nu, rfl, hnu⟩ := int_of g2
  obtain ⟨tx, rfl, htx⟩ := str_of g3
  obtain ⟨ot, rfl, _⟩ := int_of g4
  exact ⟨⟨fd, op, nu, tx, ot⟩, rfl, hnu, htx⟩
instance : Inhabited Tst := ⟨⟨0, 0, 0, ⟨#[]⟩, 0⟩⟩
theorem tests_of {n : Nat} {v : Value} {y : DataW H × List MemPlace} (h : DataW.trod enc Tryz.prog W 0 (fun _ => true) held n 24 [v] = some y) (hlt : ∀ x ∈ y.2, x.block < W.heap.size) :
    ∃ (A : Option Addr) (cp : Nat) (L : List Tst), v = .slice A L.length cp ∧ L.length ≤ maxLen ∧ TestsAt W W.heap.size A L ∧ ∀ t ∈ L, I64 t.nu ∧ t.tx.size ≤ maxLen := by
  rcases open_slice Tryz.underlying24 h with ⟨e, _⟩ | ⟨a, len, cap, m, k, D, Pl, e, _, hl, hm, hmm, hy, hel⟩
  · injection e with e; exact ⟨none, 0, [], e, by simp, TestsAt.nil, fun t ht => by cases ht⟩
  · injection e with e
    simp only [if_true] at hmm
    subst hmm
    have h5 : Tryz.prog.cellsOf 40 = 5 := by kernel_rfl
    rw [h5] at hel hy
    obtain ⟨f, hf⟩ := choose_lt (n := len) (p := fun i (q : Tst) => W.cells? 0 (a.add (i * 5)) 5 = some (tstC q).toList ∧ I64 q.nu ∧ q.tx.size ≤ maxLen) (fun i hi => by
      obtain ⟨cs', h1, h2⟩ := hel i (by omega)
      obtain ⟨p, rfl, h3⟩ := tst_of h2
      exact ⟨p, h1, h3⟩)
    refine ⟨some a, m, (List.range len).map f, by simpa using e, by simp; omega, fun j hj => ?_, fun t ht => ?_⟩
    · have hjl : j < len := by simpa using hj
      refine ⟨a, rfl, ?_, fun i hi => ?_⟩
      · have hmem : MemPlace.cell a.block (a.off + 0) ∈ y.2 := by
          rw [hy]
          refine List.mem_append_left _ ?_
          show _ ∈ MemPlace.row a (m * 5)
          unfold MemPlace.row; simp; omega
        exact hlt _ hmem
      · have := (cells_each (hf j hjl).1).2 i hi
        rw [this]
        simp
    · obtain ⟨j, hj, rfl⟩ := List.mem_map.1 ht
      exact (hf j (by simpa using hj)).2
/-- What is known of a rule that came in. -/
structure InR (r : Rul) : Prop where
  ca : r.ca < 18446744073709551616
  pa : r.pa.size ≤ maxLen
  ke : r.ke.size ≤ maxLen
  ln : r.ts.length ≤ maxLen
  ts : ∀ t ∈ r.ts, I64 t.nu ∧ t.tx.size ≤ maxLen
  li : I64 r.li
  ac : I64 r.ac
  wa : I64 r.wa
  pe : I64 r.pe
set_option maxRecDepth 100000 in
theorem rul_arg {d : DataW H} {p : List MemPlace} {v : Value} (hv : Value.okWide Tryz.prog W .any base 26 v) (h : DataW.Trod enc Tryz.prog W 0 (fun _ => true) true 26 v d p) (hlt : ∀ x ∈ p, x.block < W.heap.size) :
    ∃ (r : Rul) (A : Option Addr) (cp : Nat), v = rulV r (.slice A r.ts.length cp) ∧ InR r ∧ TestsAt W W.heap.size A r.ts := by
  obtain ⟨cs, rfl, hsz⟩ := okWide_struct Tryz.underlying26 hv
  obtain ⟨l⟩ := cs
  obtain ⟨c0, c1, c2, c3, c4, c5, c6, c7, rfl⟩ := listF8 (l := l) (hsz.trans (show Tryz.prog.cellsOf 26 = 8 by kernel_rfl))
  obtain ⟨fuel, hf⟩ := h
  obtain ⟨xs, n, _, hx, _, hlen, hg⟩ := DataW.trod_struct Tryz.underlying26 hf
  simp only [Prod.mk.injEq] at hx
  have hp := hx.2
  obtain ⟨_, _, g0⟩ := field_some hg hlen 0 3 0 1 rfl (by kernel_rfl)
  obtain ⟨_, _, g1⟩ := field_some hg hlen 1 3 1 1 rfl (by kernel_rfl)
  obtain ⟨_, _, g2⟩ := field_some hg hlen 2 23 2 1 rfl (by kernel_rfl)
  obtain ⟨y3, m3, g3⟩ := field_some hg hlen 3 24 3 1 rfl (by kernel_rfl)
  obtain ⟨_, _, g4⟩ := field_some hg hlen 4 3 4 1 rfl (by kernel_rfl)
  obtain ⟨_, _, g5⟩ := field_some hg hlen 5 9 5 1 rfl (by kernel_rfl)
  obtain ⟨_, _, g6⟩ := field_some hg hlen 6 3 6 1 rfl (by kernel_rfl)
  obtain ⟨_, _, g7⟩ := field_some hg hlen 7 9 7 1 rfl (by kernel_rfl)
  obtain ⟨li, rfl, hli⟩ := int_of g0
  obtain ⟨ac, rfl, hac⟩ := int_of g1
  obtain ⟨ca, rfl, hca⟩ := mask_of g2
  obtain ⟨wa, rfl, hwa⟩ := int_of g4
  obtain ⟨pa, rfl, hpa⟩ := str_of g5
  obtain ⟨pe, rfl, hpe⟩ := int_of g6
  obtain ⟨ke, rfl, hke⟩ := str_of g7
  obtain ⟨A, cp, L, rfl, hL1, hL2, hL3⟩ := tests_of g3 (fun x hx => hlt x (by rw [hp]; exact List.mem_flatMap.2 ⟨y3, m3, hx⟩))
  exact ⟨⟨li, ac, ca, L, wa, pa, pe, ke⟩, A, cp, rfl, ⟨hca, hpa, hke, hL1, hL3, hli, hac, hwa, hpe⟩, hL2⟩
end
end Go.Proofs.YtbbihfafkpniiaaGreatDoor
/- The listed tables of fields and operators. -/
namespace Go.Proofs.YtbbihfafkpniiaaGreatDoor
open Go.ChangeShapes Go.WideShapes Go.RowKit Go.Joins Go.Deep
theorem flat_one : ∀ M : List ByteArray, (M.map fun s => [Value.string s]).flatten = M.map Value.string
  | [] => rfl
  | x :: M => by simp [flat_one M]
theorem strs_laid {P : Program} {W : World} {laid : List (String × DataW Unit)} {name : String} {g n : Nat} {t e : TypeId} {M : List ByteArray} (i : Nat)
    (hpl : (laid.all fun x => x.2.handleName?.isNone) = true) (h : laidMetH P laid W) (hi : laid[i]? = some (name, .agg (M.map fun s => .lit (.string s.data.toList))))
    (hg : P.globalNamed name = some g) (hty : (P.globals[g]?).map (·.type) = some t) (ht : P.underlying t = some (.array n e)) (hce : P.cellsOf e = 1) (hct : P.cellsOf t = n * 1) (he : P.underlying e = some .string) (hL : M.length = n) : Glob W g (M.map Value.string).toArray :=
  glob_of_laid (c := 1) (n := n) (L := M.map fun s => [Value.string s]) i hpl h hi hg hty ht hce hct (by simpa using hL) (by
    rw [flat_one]) (fun w j hj m cs' d q hd htr => by
    have hjM : j < M.length := by simpa using hj
    rw [List.getElem?_map, List.getElem?_eq_getElem hjM] at hd
    simp at hd
    obtain ⟨s, c0, z0, _⟩ := DataW.trod_string he htr
    rw [← hd] at z0
    simp at z0
    subst c0
    have : s = M[j] := by
      apply ByteArray.ext
      exact z0.1.symm
    rw [this]; simp)
theorem names_laid {W : World} {laid : List (String × DataW Unit)} (i : Nat) (hpl : (laid.all fun x => x.2.handleName?.isNone) = true) (h : laidMetH Tryz.prog laid W) (hi : laid[i]? = some ("kaudit/field.names", Rows.laid_kaudit_field_names)) : FNames W :=
  strs_laid (M := fieldL) (t := 84) (e := 9) (n := 23) i hpl h hi (by kernel_rfl) (by kernel_rfl) Tryz.underlying84 (by kernel_rfl) (by kernel_rfl) Tryz.underlying9 rfl
theorem ops_laid {W : World} {laid : List (String × DataW Unit)} (i : Nat) (hpl : (laid.all fun x => x.2.handleName?.isNone) = true) (h : laidMetH Tryz.prog laid W) (hi : laid[i]? = some ("kaudit/field.operators", Rows.laid_kaudit_field_operators)) : FOps W :=
  strs_laid (M := opL) (t := 85) (e := 9) (n := 9) i hpl h hi (by kernel_rfl) (by kernel_rfl) Tryz.underlying85 (by kernel_rfl) (by kernel_rfl) Tryz.underlying9 rfl
end Go.Proofs.YtbbihfafkpniiaaGreatDoor
/- The listed tables of rules. -/
namespace Go.Proofs.YtbbihfafkpniiaaGreatDoor
open Go.ChangeShapes Go.WideShapes Go.RowKit Go.Joins Go.Deep
theorem lists_laid {W : World} {laid : List (String × DataW Unit)} (i : Nat) (hpl : (laid.all fun x => x.2.handleName?.isNone) = true) (h : laidMetH Tryz.prog laid W) (hi : laid[i]? = some ("kaudit/rule.lists", Rows.laid_kaudit_rule_lists)) : RLists W :=
  strs_laid (M := listL) (t := 66) (e := 9) (n := 6) i hpl h hi (by kernel_rfl) (by kernel_rfl) Tryz.underlying66 (by kernel_rfl) (by kernel_rfl) Tryz.underlying9 rfl
theorem acts_laid {W : World} {laid : List (String × DataW Unit)} (i : Nat) (hpl : (laid.all fun x => x.2.handleName?.isNone) = true) (h : laidMetH Tryz.prog laid W) (hi : laid[i]? = some ("kaudit/rule.actions", Rows.laid_kaudit_rule_actions)) : RActs W :=
  strs_laid (M := actL) (t := 65) (e := 9) (n := 3) i hpl h hi (by kernel_rfl) (by kernel_rfl) Tryz.underlying65 (by kernel_rfl) (by kernel_rfl) Tryz.underlying9 rfl
theorem perm_laid {W : World} {laid : List (String × DataW Unit)} (i : Nat) (hpl : (laid.all fun x => x.2.handleName?.isNone) = true) (h : laidMetH Tryz.prog laid W) (hi : laid[i]? = some ("kaudit/rule.permBits", Rows.laid_kaudit_rule_permBits)) : RPerm W :=
  glob_of_tab (tab_of_laid (k := .i64) (zs := [4, 2, 1, 8]) (g := 4) i hpl h hi (by kernel_rfl) (by kernel_rfl) Tryz.underlying86 Tryz.underlying3 (by kernel_rfl) (by kernel_rfl)) (by kernel_rfl) rfl
end Go.Proofs.YtbbihfafkpniiaaGreatDoor
/- The listed error variables; the variable MaxLen, out of the world's shape. -/
namespace Go.Proofs.YtbbihfafkpniiaaGreatDoor
open Go.RowKit
theorem errv_of_laid {W : World} {laid : List (String × DataW Unit)} {name nm : String} {d : DataW Unit} {g : Nat} {ms : Array (String × TypeId)} (i : Nat) (hpl : (laid.all fun x => x.2.handleName?.isNone) = true) (h : laidMetH Tryz.prog laid W) (hi : laid[i]? = some (name, .iface nm d))
    (hg : Tryz.prog.globalNamed name = some g) (hty : (Tryz.prog.globals[g]?).map (·.type) = some 92) (hu : Tryz.prog.underlying 92 = some (.interface ms)) : ErrV W g := by
  rw [MakeChecks.laidMetH_plain _ _ _ hpl] at h
  obtain ⟨ps, hv, _⟩ := h
  obtain ⟨g', t', cs, fuel, p, hg', ht', hvar, hd⟩ := vars_at hv i name _ hi
  obtain rfl := Option.some.inj (hg.symm.trans hg')
  obtain rfl := Option.some.inj (hty.symm.trans ht')
  obtain ⟨_, u, v, hc, _, _⟩ := iface_of_trod hu hd
  unfold World.var? at hvar
  rw [hg] at hvar
  simp only [Option.bind_some] at hvar
  split at hvar
  · rename_i cs2 tt fr he
    injection hvar with hvar
    subst hvar
    refine ⟨.iface u v, ?_, .inr ⟨u, v, rfl⟩⟩
    rw [cell_of_row W _ 0 cs2 tt fr he]
    have : cs2 = #[.iface u v] := by apply Array.toList_inj.1; rw [hc]
    rw [this]; rfl
  · cases hvar
theorem mx_of_shape {W : World} (h : W.ShapedOpen Tryz.prog) : Mx W :=
  cell_of_shapedOpen_int (P := Tryz.prog) (g := 6) (t := 3) (zero := #[.int .i64 0]) h (of_decide_eq_true (by kernel_rfl)) (by kernel_rfl) rfl (by kernel_rfl) (by kernel_rfl) Tryz.underlying3
end Go.Proofs.YtbbihfafkpniiaaGreatDoor

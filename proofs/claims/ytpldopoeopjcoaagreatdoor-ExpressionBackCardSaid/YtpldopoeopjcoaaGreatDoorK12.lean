/- Texts of one proof, laid together. -/
import Derived.Test.YtpldopoeopjcoaaGreatDoorK11
import Derived.RegionTactic
import Derived.Test.YtpldopoeopjcoaaGreatDoorK10
/- factor of package expression's parser. -/
namespace Go.Proofs.YtpldopoeopjcoaaGreatDoor
open Go.RowKit
attribute [local irreducible] facE orE testE notE parE hasE wordE cmpE valE cmpL hitB leftT hdT
def FHyp (n g : Nat) (ts : List Tk) : Prop := ∀ (ts' : List Tk) (w : World), ts'.length < ts.length → TkO w g ts' → Calls Tryz.prog 84 #[.pointer (some ⟨g, 0, none⟩)] w (XPost (facE n ts') w g)
def OHyp (n g : Nat) (ts : List Tk) : Prop := ∀ (ts' : List Tk) (w : World), ts'.length < ts.length → TkO w g ts' → Calls Tryz.prog 44 #[.pointer (some ⟨g, 0, none⟩)] w (XPost (orE n ts') w g)
set_option maxRecDepth 100000 in
set_option maxHeartbeats 16000000 in
theorem vfac_step (n g : Nat) (ts : List Tk) (hF : FHyp n g ts) (hO : OHyp n g ts) (w : World) (ht : TkO w g ts) :
    Calls Tryz.prog 84 #[.pointer (some ⟨g, 0, none⟩)] w (XPost (facE (n + 1) ts) w g) := by
  have hgl := ht.lt
  have T0 := Lib.hid (ht.alloc (.cells xZ 25))
  have R0 := Lib.hid (Blk.new w xZ 25)
  have G0 := Lib.hid (only_alloc (World.grownBy.refl w (some g)) (.cells xZ 25))
  have HF := Lib.hid hF
  have HO := Lib.hid hO
  have HSZ := Lib.hid (show (w.alloc (.cells xZ 25)).heap.size = w.heap.size + 1 by simp)
  clear ht hF hO
  go_enter Tryz.func84, Tryz.ntmps84
  go_wp2_with fail
  refine (vtakes ts 1 sNot _ g T0.out.1).mono ?_
  rintro e w1 ⟨rfl, hs1, hg1⟩
  have T1 := Lib.hid (T0.out.step hs1 (T0.out.toks.left 1 sNot) hg1)
  have G1 := Lib.hid (only_trans G0.out hg1)
  have R1 := Lib.hid (Blk.grown R0.out hg1 (fun e => by injection e with e; omega))
  have Z1 := Lib.hid (show w.heap.size < w1.heap.size by have := hg1.size; have := HSZ.out; omega)
  clear hs1 hg1 T0 R0 G0 HSZ
  cases hb : hitB ts 1 sNot
  case true =>
    have HE := Lib.hid (fac_not (n := n) hb)
    have HL := Lib.hid (show ts.tail.length < ts.length by have := hit_pos hb; omega)
    have T2 := Lib.hid (show TkO w1 g ts.tail by have := T1.out; rw [leftT_yes hb] at this; exact this)
    clear T1
    go_wp2_with fail
    refine (HF.out ts.tail _ HL.out T2.out).mono ?_
    intro e w2 hp
    cases ho : facE n ts.tail with
    | none =>
      rw [ho] at hp
      obtain ⟨rfl, hg2⟩ := hp
      have HP : XPost (facE (n + 1) ts) w g (.panicked [{ v := feV, recovered := false }]) w2 := by
        rw [HE.out, ho]
        unfold notE
        exact ⟨rfl, only_trans G1.out hg2⟩
      exact ⟨rfl, HP⟩
    | some p =>
    obtain ⟨x, r⟩ := p
    rw [ho] at hp
    obtain ⟨m, rfl, hx, ht2, hg2⟩ := hp
    have RB := Lib.hid ((Blk.grown R1.out hg2 (fun e => by injection e with e; omega)).alloc (.cells (xC m) 25))
    have P := Lib.hid (not_post (hx.keep (fun _ _ => rfl) (fun i hi => ⟨by have := hi.1; have := Z1.out; omega, hi.2⟩)) (only_trans G1.out hg2) ht2 hgl (by have := hg2.size; have := Z1.out; omega))
    have HR := Lib.hid (show facE (n + 1) ts = some (.mk 3 0 0 0 ⟨#[]⟩ ⟨#[]⟩ [x], r) by rw [HE.out, ho]; unfold notE; rfl)
    clear hx ht2 hg2 T2 R1 G1 HE HL ho
    go_wp2_with ((with_reducible refine store_blk ?_ 25 (.tmp 2) (.tmp 13) ?_ RB.out (xC ⟨3, 0, 0, 0, ⟨#[]⟩, ⟨#[]⟩, some ⟨w2.heap.size, 0, none⟩, 1, 1⟩) ?_ ?_ ?_ ?_ ?_ ?_); (iterate 4 rfl); (exact x_sz _); rfl; (exact x_one _))
    refine bodyPost_ret (x_ret (fn := Tryz.f84) rfl _ _ w.heap.size ⟨3, 0, 0, 0, ⟨#[]⟩, ⟨#[]⟩, some ⟨w2.heap.size, 0, none⟩, 1, 1⟩ rfl (Blk.row RB.out _)) rfl ?_
    rw [HR.out]
    exact P.out
  case false =>
  have T2 := Lib.hid (show TkO w1 g ts by have := T1.out; rw [leftT_no hb] at this; exact this)
  clear T1
  go_wp2_with fail
  refine (vtakes ts 1 sHas _ g T2.out.1).mono ?_
  rintro e w2 ⟨rfl, hs2, hg2⟩
  have T3 := Lib.hid (T2.out.step hs2 (T2.out.toks.left 1 sHas) hg2)
  have G2 := Lib.hid (only_trans G1.out hg2)
  have R2 := Lib.hid (Blk.grown R1.out hg2 (fun e => by injection e with e; omega))
  have Z2 := Lib.hid (show w.heap.size < w2.heap.size by have := hg2.size; have := Z1.out; omega)
  clear hs2 hg2 T2 R1 G1 Z1
  cases hb2 : hitB ts 1 sHas
  case true =>
    have HE := Lib.hid (fac_has (n := n) hb hb2)
    have T4 := Lib.hid (show TkO w2 g ts.tail by have := T3.out; rw [leftT_yes hb2] at this; exact this)
    clear T3
    go_wp2_with fail
    refine (vwordE ts.tail _ g T4.out).mono ?_
    intro e w3 hp
    cases ho : wordE ts.tail with
    | none =>
      rw [ho] at hp
      obtain ⟨rfl, hg3⟩ := hp
      have HP : XPost (facE (n + 1) ts) w g (.panicked [{ v := feV, recovered := false }]) w3 := by
        rw [HE.out]
        have : hasE ts.tail = none := by unfold hasE; rw [ho]
        rw [this]
        exact ⟨rfl, only_trans G2.out hg3⟩
      exact ⟨rfl, HP⟩
    | some p =>
    obtain ⟨s, r⟩ := p
    rw [ho] at hp
    obtain ⟨rfl, ht3, hg3, hsz⟩ := hp
    have HH := Lib.hid (show facE (n + 1) ts = some (.mk 5 0 0 0 s ⟨#[]⟩ [], r) by rw [HE.out]; unfold hasE; rw [ho])
    have RB := Lib.hid (Blk.grown R2.out hg3 (fun e => by injection e with e; omega))
    have T5 := Lib.hid ht3
    have G3 := Lib.hid (only_trans G2.out hg3)
    have HSS := Lib.hid (show s.size ≤ maxLen ∧ (⟨#[]⟩ : ByteArray).size ≤ maxLen from ⟨by unfold maxLen; omega, by show 0 ≤ maxLen; omega⟩)
    clear ht3 hg3 hsz T4 R2 G2 HE ho
    go_wp2_with ((with_reducible refine store_blk ?_ 25 (.tmp 2) (.tmp 18) ?_ RB.out (xC ⟨5, 0, 0, 0, s, ⟨#[]⟩, none, 0, 0⟩) ?_ ?_ ?_ ?_ ?_ ?_); (iterate 4 rfl); (exact x_sz _); rfl; (exact x_one _))
    refine bodyPost_ret (x_ret (fn := Tryz.f84) rfl _ _ w.heap.size ⟨5, 0, 0, 0, s, ⟨#[]⟩, none, 0, 0⟩ rfl (Blk.row RB.out _)) rfl ?_
    rw [HH.out]
    exact ⟨_, rfl, ExA.leaf _ _ 5 0 0 0 s ⟨#[]⟩ 0 HSS.out, T5.out.far (row_only _ _ _) (fun k e => by injection e with e; omega), only_far G3.out (row_only _ _ _) (fun k e => by injection e with e; omega)⟩
  case false =>
  have T4 := Lib.hid (show TkO w2 g ts by have := T3.out; rw [leftT_no hb2] at this; exact this)
  clear T3
  go_wp2_with fail
  refine (vtakes ts 4 ⟨#[40]⟩ _ g T4.out.1).mono ?_
  rintro e w3 ⟨rfl, hs3, hg3⟩
  have T5 := Lib.hid (T4.out.step hs3 (T4.out.toks.left 4 ⟨#[40]⟩) hg3)
  have G3 := Lib.hid (only_trans G2.out hg3)
  have R3 := Lib.hid (Blk.grown R2.out hg3 (fun e => by injection e with e; omega))
  have Z3 := Lib.hid (show w.heap.size < w3.heap.size by have := hg3.size; have := Z2.out; omega)
  clear hs3 hg3 T4 R2 G2 Z2
  cases hb3 : hitB ts 4 ⟨#[40]⟩
  case true =>
    have HE := Lib.hid (fac_par (n := n) hb hb2 hb3)
    have HL := Lib.hid (show ts.tail.length < ts.length by have := hit_pos hb3; omega)
    have T6 := Lib.hid (show TkO w3 g ts.tail by have := T5.out; rw [leftT_yes hb3] at this; exact this)
    clear T5
    go_wp2_with fail
    refine (HO.out ts.tail _ HL.out T6.out).mono ?_
    intro e w4 hp
    cases ho : orE n ts.tail with
    | none =>
      rw [ho] at hp
      obtain ⟨rfl, hg4⟩ := hp
      have HP : XPost (facE (n + 1) ts) w g (.panicked [{ v := feV, recovered := false }]) w4 := by
        rw [HE.out, ho]
        unfold parE
        exact ⟨rfl, only_trans G3.out hg4⟩
      exact ⟨rfl, HP⟩
    | some p =>
    obtain ⟨x, r⟩ := p
    rw [ho] at hp
    obtain ⟨m, rfl, hx, ht4, hg4⟩ := hp
    have G4 := Lib.hid (only_alloc (only_trans G3.out hg4) (.cells (xC m) 25))
    have R4 := Lib.hid ((Blk.grown R3.out hg4 (fun e => by injection e with e; omega)).alloc (.cells (xC m) 25))
    have B4 := Lib.hid (Blk.new w4 (xC m) 25)
    have T7 := Lib.hid (ht4.alloc (.cells (xC m) 25))
    have Z4 := Lib.hid (show w.heap.size < w4.heap.size by have := hg4.size; have := Z3.out; omega)
    have X4 := Lib.hid (show ExA (w4.alloc (.cells (xC m) 25)) (fun i => w.heap.size < i ∧ i < w4.heap.size) x m from hx.keep (fun i hi => ((Below.refl w4.heap.size w4).alloc (Nat.le_refl _) _).block i hi.2) (fun i hi => ⟨by have := hi.1; have := Z3.out; omega, hi.2⟩))
    have HE := Lib.hid (show facE (n + 1) ts = parE (some (x, r)) by rw [HE.out, ho])
    clear hx ht4 hg4 T6 R3 G3 HL ho
    go_wp2_with fail
    refine (vtakes r 4 ⟨#[41]⟩ _ g T7.out.1).mono ?_
    rintro e w5 ⟨rfl, hs5, hg5⟩
    have T8 := Lib.hid (T7.out.step hs5 (T7.out.toks.left 4 ⟨#[41]⟩) hg5)
    have G5 := Lib.hid (only_trans G4.out hg5)
    have R5 := Lib.hid (Blk.grown R4.out hg5 (fun e => by injection e with e; omega))
    have B5 := Lib.hid (Blk.grown B4.out hg5 (fun e => by injection e with e; have := Z4.out; omega))
    have X5 := Lib.hid (show ExA w5 (fun i => w.heap.size < i ∧ i < w5.heap.size) x m from X4.out.keep (fun i hi => hg5.block i (by have := hi.2; simp; omega) (fun e => by injection e with e; have := hi.1; omega)) (fun i hi => ⟨hi.1, by have := hi.2; have := hg5.size; simp at this; omega⟩))
    clear hs5 hg5 T7 R4 G4 B4 X4
    cases hb4 : hitB r 4 ⟨#[41]⟩
    case false =>
      have HP := Lib.hid (show facE (n + 1) ts = none by rw [HE.out]; unfold parE; simp only; rw [hb4]; rfl)
      go_wp2_with fail
      refine (vfail _).mono ?_
      rintro e w6 ⟨rfl, rfl⟩
      have HP : XPost (facE (n + 1) ts) w g (.panicked [{ v := feV, recovered := false }]) w6 := by
        rw [HP.out]
        exact ⟨rfl, G5.out⟩
      exact ⟨rfl, HP⟩
    case true =>
      have HP := Lib.hid (show facE (n + 1) ts = some (x, r.tail) by rw [HE.out]; unfold parE; simp only; rw [hb4]; rfl)
      have T9 := Lib.hid (show TkO w5 g r.tail by have := T8.out; rw [leftT_yes hb4] at this; exact this)
      clear T8
      go_wp2_with (first | ((with_reducible refine load_blk ?_ 25 (.tmp 3) ?_ B5.out ?_ _ Tryz.underlying25 ?_ ?_ ?_); (iterate 4 rfl); exact x_sz _) | ((with_reducible refine store_blk ?_ 25 (.tmp 2) (.tmp 27) ?_ R5.out (xC m) ?_ ?_ ?_ ?_ ?_ ?_); (iterate 4 rfl); (exact x_sz _); rfl; (exact x_one _)))
      refine bodyPost_ret (x_ret (fn := Tryz.f84) rfl _ _ w.heap.size m rfl (Blk.row R5.out _)) rfl ?_
      rw [HP.out]
      exact ⟨m, rfl, X5.out.keep (fun i hi => setRow_other _ _ _ _ (by have := hi.1; omega)) (fun i hi => ⟨Nat.le_of_lt hi.1, by rw [setRow_size]; exact hi.2⟩), T9.out.far (row_only _ _ _) (fun k e => by injection e with e; omega), only_far G5.out (row_only _ _ _) (fun k e => by injection e with e; omega)⟩
  case false =>
  have HE := Lib.hid (fac_test (n := n) hb hb2 hb3)
  have T6 := Lib.hid (show TkO w3 g ts by have := T5.out; rw [leftT_no hb3] at this; exact this)
  clear T5 hb hb2 hb3 HF HO
  go_wp2_with fail
  refine (vwordE ts _ g T6.out).mono ?_
  intro e w4 hp
  cases ho : wordE ts with
  | none =>
    rw [ho] at hp
    obtain ⟨rfl, hg4⟩ := hp
    have HP : XPost (facE (n + 1) ts) w g (.panicked [{ v := feV, recovered := false }]) w4 := by
      rw [HE.out]
      have : testE ts = none := by unfold testE; rw [ho]
      rw [this]
      exact ⟨rfl, only_trans G3.out hg4⟩
    exact ⟨rfl, HP⟩
  | some p =>
  obtain ⟨s, r⟩ := p
  rw [ho] at hp
  obtain ⟨rfl, ht4, hg4, hsz⟩ := hp
  have HS := Lib.hid hsz
  have HTE := Lib.hid (show facE (n + 1) ts = cmpE s r by rw [HE.out]; unfold testE; rw [ho])
  have K := Lib.hid (show FS w (w4.alloc (.cells (xC ⟨4, 0, 0, 0, s, ⟨#[]⟩, none, 0, 0⟩) 25)) g w4.heap.size ⟨4, 0, 0, 0, s, ⟨#[]⟩, none, 0, 0⟩ r from ⟨(Blk.grown R3.out hg4 (fun e => by injection e with e; omega)).alloc _, Blk.new w4 _ _, ht4.alloc _, only_alloc (only_trans G3.out hg4) _, by have := hg4.size; have := Z3.out; omega, hgl⟩)
  clear ht4 hg4 T6 R3 G3 Z3 ho hsz HE
  go_wp2_with fail
  generalize w4.alloc (.cells (xC ⟨4, 0, 0, 0, s, ⟨#[]⟩, none, 0, 0⟩) 25) = wa at *
  generalize w4.heap.size = g4 at *
  refine (vnextO r _ g K.out.tk).mono ?_
  rintro e w5 ⟨rfl, ht5, hg5⟩
  have K1 := Lib.hid ((K.out.step hg5 ht5).alloc (.cells (tkC (hdT r)) 100))
  have B1 := Lib.hid (Blk.new w5 (tkC (hdT r)) 100)
  have H45 := Lib.hid (show g4 < w5.heap.size from (K.out.step hg5 ht5).xb.lt)
  have HCE := Lib.hid (HTE.out.trans (cmpE_hd s r))
  have HTS := Lib.hid (K.out.tk.toks.hd)
  clear ht5 hg5 K HTE
  have c0 := B1.out.cell 0
  have c1 := B1.out.cell 1
  have x1 := K1.out.xb.cell 1
  have x1f := K1.out.xb.free 1
  generalize hdT r = t at *
  generalize hg5 : w5.heap.size = g5 at *
  cases b4 : (t.kd == 4)
  case false =>
    have HC := Lib.hid (show ¬ (t.kd = 4 ∧ cmpL t.tx.toList ≠ 0) from fun h => by rw [h.1] at b4; exact absurd b4 (by decide))
    have HC := Lib.hid (show facE (n + 1) ts = none by rw [HCE.out, if_neg HC.out])
    go_wp2_with fail
    refine (vfail _).mono ?_
    rintro e w6 ⟨rfl, rfl⟩
    have HP : XPost (facE (n + 1) ts) w g (.panicked [{ v := feV, recovered := false }]) (w5.alloc (.cells (tkC t) 100)) := by
      rw [HC.out]
      exact ⟨rfl, K1.out.only⟩
    exact ⟨rfl, HP⟩
  case true =>
  have HK4 := Lib.hid (show t.kd = 4 from eq_of_beq b4)
  go_wp2_with fail
  refine (vcomparison t.tx _).mono ?_
  rintro e w6 ⟨rfl, rfl⟩
  cases bc : (cmpL t.tx.toList == 0)
  case true =>
    have HC := Lib.hid (show ¬ (t.kd = 4 ∧ cmpL t.tx.toList ≠ 0) from fun h => h.2 (eq_of_beq bc))
    have HC := Lib.hid (show facE (n + 1) ts = none by rw [HCE.out, if_neg HC.out])
    have K2 := Lib.hid (K1.out.set 1 (.int .i64 (cmpL t.tx.toList)) (m' := ⟨4, cmpL t.tx.toList, 0, 0, s, ⟨#[]⟩, none, 0, 0⟩) rfl)
    have x2 := K2.out.xb.cell 1
    go_wp2_with fail
    refine (vfail _).mono ?_
    rintro e w7 ⟨rfl, rfl⟩
    have HP : XPost (facE (n + 1) ts) w g (.panicked [{ v := feV, recovered := false }]) ((w5.alloc (.cells (tkC t) 100)).setCell ⟨g4, 1, none⟩ (.int .i64 (cmpL t.tx.toList))) := by
      rw [HC.out]
      exact ⟨rfl, K2.out.only⟩
    exact ⟨rfl, HP⟩
  case false =>
  have HC := Lib.hid (show t.kd = 4 ∧ cmpL t.tx.toList ≠ 0 from ⟨HK4.out, fun h => by rw [h] at bc; exact absurd bc (by decide)⟩)
  have HCE := Lib.hid (HCE.out.trans (if_pos HC.out))
  clear HC HK4
  have K2 := Lib.hid (K1.out.set 1 (.int .i64 (cmpL t.tx.toList)) (m' := ⟨4, cmpL t.tx.toList, 0, 0, s, ⟨#[]⟩, none, 0, 0⟩) rfl)
  have x2 := K2.out.xb.cell 1
  have B2 := Lib.hid (B1.out.put_other (p := ⟨g4, 1, none⟩) (.int .i64 (cmpL t.tx.toList)) (by show g5 ≠ g4; have := H45.out; omega))
  go_wp2_with fail
  refine (vnextO r.tail _ g K2.out.tk).mono ?_
  rintro e w6 ⟨rfl, ht6, hg6⟩
  have K3 := Lib.hid (K2.out.step hg6 ht6)
  have B3 := Lib.hid (Blk.grown B2.out hg6 (fun e => by injection e with e; have := H45.out; have := K2.out.h4; have := K2.out.hg; omega))
  have HVE := Lib.hid (HCE.out.trans (valE_hd s (cmpL t.tx.toList) r.tail))
  have HTS2 := Lib.hid (show (hdT r.tail).tx.size ≤ 1000000 from K2.out.tk.toks.hd)
  have h45 : g4 < g5 := H45.out
  clear ht6 hg6 K2 B2 B1 K1 HCE x2 x1 x1f c0 c1 HTS
  generalize hdT r.tail = t2 at *
  generalize r.tail.tail = r2 at *
  have c0 := (Blk.row B3.out (tkC t2)).cell 0
  cases d2 : (t2.kd == 2)
  case true =>
    have HR := Lib.hid (show facE (n + 1) ts = some (.mk 4 (cmpL t.tx.toList) 1 t2.nu s ⟨#[]⟩ [], r2) by rw [HVE.out, if_pos (eq_of_beq d2)])
    go_upto_region 20 with (((with_reducible refine store_blk ?_ 100 (.tmp 5) (.tmp 45) ?_ B3.out (tkC t2) ?_ ?_ ?_ ?_ ?_ ?_); (iterate 4 rfl); (exact tk_sz _); rfl; (simp [Value.oneCell'])))
    have K4 := Lib.hid (K3.out.row h45 (tkC t2))
    have B4 := Lib.hid (Blk.row B3.out (tkC t2))
    clear K3 B3 c0 HVE
    generalize w6.setRow g5 (tkC t2) = wz at *
    have y2 := B4.out.cell 2
    have f2 := K4.out.xb.free 2
    have f3 := K4.out.xb.free 3
    have y4 := K4.out.xb.cell 2
    have y5 := K4.out.xb.cell 3
    go_region
    have K5 := Lib.hid (((K4.out.set 2 (.int .i64 1) (m' := ⟨4, cmpL t.tx.toList, 1, 0, s, ⟨#[]⟩, none, 0, 0⟩) rfl).set 3 (.int .i64 t2.nu) (m' := ⟨4, cmpL t.tx.toList, 1, t2.nu, s, ⟨#[]⟩, none, 0, 0⟩) rfl).drew)
    have HSS := Lib.hid (show s.size ≤ maxLen ∧ (⟨#[]⟩ : ByteArray).size ≤ maxLen from ⟨by have := HS.out; unfold maxLen; omega, by show 0 ≤ maxLen; omega⟩)
    clear K4 B4 y2 y4 y5 f2 f3
    generalize ((wz.setCell ⟨g4, 2, none⟩ (.int .i64 1)).setCell ⟨g4, 3, none⟩ (.int .i64 t2.nu)).drew = wf at *
    go_wp2_with (first | ((with_reducible refine load_blk ?_ 25 (.tmp 4) ?_ K5.out.xb ?_ _ Tryz.underlying25 ?_ ?_ ?_); (iterate 4 rfl); exact x_sz _) | ((with_reducible refine store_blk ?_ 25 (.tmp 2) (.tmp 75) ?_ K5.out.res (xC ⟨4, cmpL t.tx.toList, 1, t2.nu, s, ⟨#[]⟩, none, 0, 0⟩) ?_ ?_ ?_ ?_ ?_ ?_); (iterate 4 rfl); (exact x_sz _); rfl; (exact x_one _)))
    refine bodyPost_ret (x_ret (fn := Tryz.f84) rfl _ _ w.heap.size ⟨4, cmpL t.tx.toList, 1, t2.nu, s, ⟨#[]⟩, none, 0, 0⟩ rfl (Blk.row K5.out.res _)) rfl ?_
    rw [HR.out]
    exact K5.out.fin rfl rfl HSS.out
  case false =>
  cases d3 : (t2.kd == 3)
  case true =>
    have HR := Lib.hid (show facE (n + 1) ts = some (.mk 4 (cmpL t.tx.toList) 2 0 s t2.tx [], r2) by rw [HVE.out, if_neg (fun h => by rw [h] at d2; exact absurd d2 (by decide)), if_pos (eq_of_beq d3)])
    go_upto_region 22 with (((with_reducible refine store_blk ?_ 100 (.tmp 5) (.tmp 45) ?_ B3.out (tkC t2) ?_ ?_ ?_ ?_ ?_ ?_); (iterate 4 rfl); (exact tk_sz _); rfl; (simp [Value.oneCell'])))
    have K4 := Lib.hid (K3.out.row h45 (tkC t2))
    have B4 := Lib.hid (Blk.row B3.out (tkC t2))
    clear K3 B3 c0 HVE
    generalize w6.setRow g5 (tkC t2) = wz at *
    have y2 := B4.out.cell 1
    have f2 := K4.out.xb.free 2
    have f3 := K4.out.xb.free 5
    have y4 := K4.out.xb.cell 2
    have y5 := K4.out.xb.cell 5
    go_region
    have K5 := Lib.hid (((K4.out.set 2 (.int .i64 2) (m' := ⟨4, cmpL t.tx.toList, 2, 0, s, ⟨#[]⟩, none, 0, 0⟩) rfl).set 5 (.string t2.tx) (m' := ⟨4, cmpL t.tx.toList, 2, 0, s, t2.tx, none, 0, 0⟩) rfl).drew)
    have HSS := Lib.hid (show s.size ≤ maxLen ∧ t2.tx.size ≤ maxLen from ⟨by have := HS.out; unfold maxLen; omega, by have := HTS2.out; unfold maxLen; omega⟩)
    clear K4 B4 y2 y4 y5 f2 f3
    generalize ((wz.setCell ⟨g4, 2, none⟩ (.int .i64 2)).setCell ⟨g4, 5, none⟩ (.string t2.tx)).drew = wf at *
    go_wp2_with (first | ((with_reducible refine load_blk ?_ 25 (.tmp 4) ?_ K5.out.xb ?_ _ Tryz.underlying25 ?_ ?_ ?_); (iterate 4 rfl); exact x_sz _) | ((with_reducible refine store_blk ?_ 25 (.tmp 2) (.tmp 75) ?_ K5.out.res (xC ⟨4, cmpL t.tx.toList, 2, 0, s, t2.tx, none, 0, 0⟩) ?_ ?_ ?_ ?_ ?_ ?_); (iterate 4 rfl); (exact x_sz _); rfl; (exact x_one _)))
    refine bodyPost_ret (x_ret (fn := Tryz.f84) rfl _ _ w.heap.size ⟨4, cmpL t.tx.toList, 2, 0, s, t2.tx, none, 0, 0⟩ rfl (Blk.row K5.out.res _)) rfl ?_
    rw [HR.out]
    exact K5.out.fin rfl rfl HSS.out
  case false =>
  have HV3 := Lib.hid (HVE.out.trans ((if_neg (fun h => by rw [h] at d2; exact absurd d2 (by decide))).trans (if_neg (fun h => by rw [h] at d3; exact absurd d3 (by decide)))))
  cases d1 : (t2.kd == 1)
  case false =>
    have HR := Lib.hid (show facE (n + 1) ts = none by rw [HV3.out, if_neg (fun h => by rw [h] at d1; exact absurd d1 (by decide))])
    have K4 := Lib.hid (K3.out.row h45 (tkC t2))
    have c0 := (Blk.row B3.out (tkC t2)).cell 0
    clear HVE HV3
    go_wp2_with ((with_reducible refine store_blk ?_ 100 (.tmp 5) (.tmp 45) ?_ B3.out (tkC t2) ?_ ?_ ?_ ?_ ?_ ?_); (iterate 4 rfl); (exact tk_sz _); rfl; (simp [Value.oneCell']))
    refine (vfail _).mono ?_
    rintro e w7 ⟨rfl, rfl⟩
    have HP : XPost (facE (n + 1) ts) w g (.panicked [{ v := feV, recovered := false }]) (w6.setRow g5 (tkC t2)) := by
      rw [HR.out]
      exact ⟨rfl, K4.out.only⟩
    exact ⟨rfl, HP⟩
  case true =>
  have HV1 := Lib.hid (HV3.out.trans (if_pos (eq_of_beq d1)))
  have K4 := Lib.hid (K3.out.row h45 (tkC t2))
  have B4 := Lib.hid (Blk.row B3.out (tkC t2))
  have q1 := B4.out.cell 1
  clear HVE HV3
  go_wp2_with ((with_reducible refine store_blk ?_ 100 (.tmp 5) (.tmp 45) ?_ B3.out (tkC t2) ?_ ?_ ?_ ?_ ?_ ?_); (iterate 4 rfl); (exact tk_sz _); rfl; (simp [Value.oneCell']))
  clear K3 B3 c0 q1
  generalize w6.setRow g5 (tkC t2) = wz at *
  refine (vunquote t2.tx _ HTS2.out K4.out.tk.tab).mono ?_
  rintro e w7 ⟨rfl, hb7⟩
  have K5 := Lib.hid (K4.out.below hb7)
  clear hb7 K4 B4
  cases hu : unqO t2.tx.data.toList with
  | none =>
    have HR := Lib.hid (show facE (n + 1) ts = none by rw [HV1.out, hu])
    rw [unqS_none hu, unqE_none hu]
    clear HV1
    go_wp2_with fail
    refine (vfail _).mono ?_
    rintro e w8 ⟨rfl, rfl⟩
    have HP : XPost (facE (n + 1) ts) w g (.panicked [{ v := feV, recovered := false }]) w8 := by
      rw [HR.out]
      exact ⟨rfl, K5.out.only⟩
    exact ⟨rfl, HP⟩
  | some u =>
    have HR := Lib.hid (show facE (n + 1) ts = some (.mk 4 (cmpL t.tx.toList) 2 0 s ⟨u.toArray⟩ [], r2) by rw [HV1.out, hu])
    have HSS := Lib.hid (show s.size ≤ maxLen ∧ (⟨u.toArray⟩ : ByteArray).size ≤ maxLen from ⟨by have := HS.out; unfold maxLen; omega, by have := unqO_size hu; show u.toArray.size ≤ maxLen; simp; unfold maxLen; omega⟩)
    rw [unqS_some hu, unqE_some hu]
    clear HV1
    have f2 := K5.out.xb.free 2
    have f5 := K5.out.xb.free 5
    have y2 := K5.out.xb.cell 2
    have y5 := K5.out.xb.cell 5
    have K5 := Lib.hid ((K5.out.set 2 (.int .i64 2) (m' := ⟨4, cmpL t.tx.toList, 2, 0, s, ⟨#[]⟩, none, 0, 0⟩) rfl).set 5 (.string ⟨u.toArray⟩) (m' := ⟨4, cmpL t.tx.toList, 2, 0, s, ⟨u.toArray⟩, none, 0, 0⟩) rfl)
    go_wp2_with (first | ((with_reducible refine load_blk ?_ 25 (.tmp 4) ?_ K5.out.xb ?_ _ Tryz.underlying25 ?_ ?_ ?_); (iterate 4 rfl); exact x_sz _) | ((with_reducible refine store_blk ?_ 25 (.tmp 2) (.tmp 75) ?_ K5.out.res (xC ⟨4, cmpL t.tx.toList, 2, 0, s, ⟨u.toArray⟩, none, 0, 0⟩) ?_ ?_ ?_ ?_ ?_ ?_); (iterate 4 rfl); (exact x_sz _); rfl; (exact x_one _)))
    refine bodyPost_ret (x_ret (fn := Tryz.f84) rfl _ _ w.heap.size ⟨4, cmpL t.tx.toList, 2, 0, s, ⟨u.toArray⟩, none, 0, 0⟩ rfl (Blk.row K5.out.res _)) rfl ?_
    rw [HR.out]
    exact K5.out.fin rfl rfl HSS.out
end Go.Proofs.YtpldopoeopjcoaaGreatDoor
/- list of package expression's parser at p.factor; and. -/
namespace Go.Proofs.YtpldopoeopjcoaaGreatDoor
open Go.RowKit
attribute [local irreducible] moreE listE joinE
set_option maxRecDepth 100000 in
set_option maxHeartbeats 8000000 in
theorem vlistF (f : List Tk → Option (Ex × List Tk)) (hf : ∀ ts, Less (f ts) ts.length) (n : Nat) (g : Nat)
    (hR : ∀ (ts : List Tk) (w : World), ts.length ≤ n → TkO w g ts → Calls Tryz.prog 84 #[.pointer (some ⟨g, 0, none⟩)] w (XPost (f ts) w g))
    (op : Int) (wd : ByteArray) (ts : List Tk) (hn : ts.length ≤ n) (w : World) (ht : TkO w g ts) :
    Calls Tryz.prog 66 #[.pointer (some ⟨g, 0, none⟩), .int .i64 op, .string wd, .func (.func 84) #[.pointer (some ⟨g, 0, none⟩)] #[]] w (XPost (listE f op wd ts) w g) := by
  have hgl := ht.lt
  have T0 := Lib.hid (ht.alloc (.cells xZ 25))
  have R0 := Lib.hid (Blk.new w xZ 25)
  have G0 := Lib.hid (only_alloc (World.grownBy.refl w (some g)) (.cells xZ 25))
  have HR := Lib.hid hR
  have HF := Lib.hid hf
  have HN := Lib.hid hn
  have HSZ := Lib.hid (show (w.alloc (.cells xZ 25)).heap.size = w.heap.size + 1 by simp)
  have HTL := Lib.hid ht.toks.1
  clear ht hR hf hn
  go_enter Tryz.func66, Tryz.ntmps66
  go_wp2_with fail
  refine (HR.out ts _ HN.out T0.out).mono ?_
  intro e w1 hp
  cases ho : f ts with
  | none =>
    rw [ho] at hp
    obtain ⟨rfl, hg1⟩ := hp
    rw [list_none ho]
    exact ⟨rfl, rfl, only_trans G0.out hg1⟩
  | some p =>
  obtain ⟨x, r⟩ := p
  rw [ho] at hp
  obtain ⟨m, rfl, hx, ht1, hg1⟩ := hp
  have hl1 := HF.out ts x r ho
  have HRN := Lib.hid (show r.length < n by have := HN.out; omega)
  have HRM := Lib.hid (show 1 + r.length ≤ 1000000 by have := HTL.out; omega)
  have HLE := Lib.hid (list_start (op := op) (wd := wd) ho)
  have L1 := Lib.hid (LiS.first hgl (only_trans G0.out hg1) (Blk.grown R0.out hg1 (fun e => by injection e with e; omega)) (hx.keep (fun _ _ => rfl) (fun i hi => ⟨by have := hi.1; have := HSZ.out; omega, hi.2⟩)) ht1)
  clear hx ht1 hg1 ho hl1 T0 R0 G0
  go_wp2_with fail
  go_loopw [9] (fun v wr => ∃ (l : List Ex) (ms : List Xe) (r' : List Tk), LiS w wr g v l ms r' ∧ Hid (1 ≤ l.length) ∧ Hid (r'.length < n) ∧ Hid (l.length + r'.length ≤ 1000000) ∧ Hid (listE f op wd ts = conE op l (moreE f wd r'.length r'))) (fun v _ => 1000001 - slN v)
  case atStart => exact ⟨[x], [m], r, L1.out, Lib.hid (Nat.le_refl 1), HRN, HRM, HLE⟩
  case round =>
    obtain ⟨l, ms, r', hL, hl1, hrn, hlr, hE⟩ := hrel
    generalize u9 = v at *
    have K := Lib.hid hL
    clear hL
    go_wp2_with fail
    refine (vtakes r' 1 wd _ g K.out.tk.1).mono ?_
    rintro e w1 ⟨rfl, ht, hg⟩
    have K1 := Lib.hid (K.out.step hg (K.out.tk.step ht (K.out.tk.toks.left 1 wd) hg))
    clear ht hg K
    cases hb : hitB r' 1 wd
    case false =>
      have K2 := Lib.hid (show LiS w w1 g v l ms r' by have := K1.out; rw [leftT_no hb] at this; exact this)
      have HJ := Lib.hid (hE.out.trans (con_stop HF.out hb))
      clear hE K1
      obtain ⟨A, c, rfl, hat⟩ := K2.out.own.at
      by_cases h1 : ms.length = 1
      · obtain ⟨m0, rfl⟩ := List.length_eq_one_iff.1 h1
        obtain ⟨x0, rfl⟩ := List.length_eq_one_iff.1 (show l.length = 1 by rw [← K2.out.ln]; exact h1)
        obtain ⟨ad, rfl, hab, hcx⟩ := hat 0 (by simp)
        obtain ⟨s0, s1, s2, s3, s4, s5, s6⟩ := x_cells (a := ad) (m := m0) hcx
        have HX := Lib.hid (K2.out.ps 0 (by simp) (by simp))
        have RB := Lib.hid K2.out.res
        have HJ2 := Lib.hid (show listE f op wd ts = some (x0, r') by rw [HJ.out]; unfold joinE; rfl)
        clear HJ hat hcx h1
        simp only [List.length_singleton]
        go_wp2_with ((with_reducible refine store_blk ?_ 25 (.tmp 8) (.tmp 26) ?_ RB.out (xC m0) ?_ ?_ ?_ ?_ ?_ ?_); (iterate 4 rfl); (exact x_sz _); rfl; (exact x_one _))
        refine bodyPost_ret (x_ret (fn := Tryz.f66) rfl _ _ w.heap.size m0 rfl (Blk.row RB.out _)) rfl ?_
        rw [HJ2.out]
        refine ⟨m0, rfl, HX.out.keep (fun i hi => setRow_other _ _ _ _ (by have := hi.1; omega)) (fun i hi => ⟨by have := hi.1; omega, by rw [setRow_size]; exact hi.2.1⟩), K2.out.tk.far (row := some w.heap.size) (row_only _ _ _) (fun k e => by injection e with e; omega), only_far K2.out.only (row_only _ _ _) (fun k e => by injection e with e; omega)⟩
      · have q1 : ((ms.length : Int) == 1) = false := by simp; omega
        have RB := Lib.hid K2.out.res
        have HJ2 := Lib.hid (show listE f op wd ts = some (.mk op 0 0 0 ⟨#[]⟩ ⟨#[]⟩ l, r') by
          rw [HJ.out]
          exact join_many (by have := K2.out.ln; omega))
        have HX := Lib.hid (show ExA (w1.setRow w.heap.size (xC ⟨op, 0, 0, 0, ⟨#[]⟩, ⟨#[]⟩, A, ms.length, c⟩)) (Frs w (w1.setRow w.heap.size (xC ⟨op, 0, 0, 0, ⟨#[]⟩, ⟨#[]⟩, A, ms.length, c⟩))) (.mk op 0 0 0 ⟨#[]⟩ ⟨#[]⟩ l) ⟨op, 0, 0, 0, ⟨#[]⟩, ⟨#[]⟩, A, ms.length, c⟩ by
          have hln := K2.out.ln
          have hs : ∀ i, w.heap.size + 1 ≤ i ∧ i < w1.heap.size → Frs w (w1.setRow w.heap.size (xC ⟨op, 0, 0, 0, ⟨#[]⟩, ⟨#[]⟩, A, ms.length, c⟩)) i := fun i hi => ⟨by omega, by rw [setRow_size]; exact hi.2⟩
          have hk : ∀ i, w.heap.size + 1 ≤ i ∧ i < w1.heap.size → (w1.setRow w.heap.size (xC ⟨op, 0, 0, 0, ⟨#[]⟩, ⟨#[]⟩, A, ms.length, c⟩)).heap[i]? = w1.heap[i]? := fun i hi => setRow_other _ _ _ _ (by omega)
          generalize w1.setRow w.heap.size (xC ⟨op, 0, 0, 0, ⟨#[]⟩, ⟨#[]⟩, A, ms.length, c⟩) = W at hs hk ⊢
          have ha : AtS w1 (fun i => w.heap.size + 1 ≤ i ∧ i < w1.heap.size) A ms := hat.toS (fun ad e hb => ⟨by
            subst e
            exact own_ge (n := 0) K2.out.own (by have := hl1.out; omega), hb⟩)
          rw [hln]
          exact ExA.mk op 0 0 0 ⟨#[]⟩ ⟨#[]⟩ l A c ms hln (by have := hlr.out; have := hlr.out; omega) ⟨by show 0 ≤ maxLen; omega, by show 0 ≤ maxLen; omega⟩ (ha.keep hk hs) (fun k h1 h2 => (K2.out.ps k h1 h2).keep (fun i hi => hk i ⟨hi.1, hi.2.1⟩) (fun i hi => hs i ⟨hi.1, hi.2.1⟩)))
        clear HJ hat h1
        go_wp2_with ((with_reducible refine store_blk ?_ 25 (.tmp 8) (.tmp 29) ?_ RB.out (xC ⟨op, 0, 0, 0, ⟨#[]⟩, ⟨#[]⟩, A, ms.length, c⟩) ?_ ?_ ?_ ?_ ?_ ?_); (iterate 4 rfl); (exact x_sz _); rfl; (exact x_one _))
        refine bodyPost_ret (x_ret (fn := Tryz.f66) rfl _ _ w.heap.size ⟨op, 0, 0, 0, ⟨#[]⟩, ⟨#[]⟩, A, ms.length, c⟩ rfl (Blk.row RB.out _)) rfl ?_
        rw [HJ2.out]
        exact ⟨_, rfl, HX.out, K2.out.tk.far (row := some w.heap.size) (row_only _ _ _) (fun k e => by injection e with e; omega), only_far K2.out.only (row_only _ _ _) (fun k e => by injection e with e; omega)⟩
    case true =>
      have hlt := hit_pos hb
      have HT := Lib.hid (show TkO w1 g r'.tail by have := K1.out.tk; rw [leftT_yes hb] at this; exact this)
      have HTN := Lib.hid (show r'.tail.length ≤ n by have := hrn.out; omega)
      have HVB := Lib.hid (K1.out.own.lt)
      have HRL := Lib.hid K1.out.res.lt
      have HLT := Lib.hid hlt
      clear hlt
      go_wp2_with fail
      refine (HR.out r'.tail _ HTN.out HT.out).mono ?_
      intro e w2 hp
      cases ho : f r'.tail with
      | none =>
        rw [ho] at hp
        obtain ⟨rfl, hg1⟩ := hp
        have HP : XPost (listE f op wd ts) w g (.panicked [{ v := feV, recovered := false }]) w2 := by
          rw [hE.out, con_none HF.out hb ho]
          exact ⟨rfl, only_trans K1.out.only hg1⟩
        exact ⟨rfl, HP⟩
      | some p =>
      obtain ⟨x2, r2⟩ := p
      rw [ho] at hp
      obtain ⟨m2, rfl, hx, ht2, hg2⟩ := hp
      have hl2 := HF.out _ x2 r2 ho
      have HRN := Lib.hid (show r2.length < n by have := HTN.out; omega)
      have HRM := Lib.hid (show (l ++ [x2]).length + r2.length ≤ 1000000 by have := hlr.out; have := HLT.out; simp; omega)
      have HLE := Lib.hid (hE.out.trans (con_more (l := l) (op := op) HF.out hb ho))
      have K2 := Lib.hid (K1.out.step hg2 ht2)
      have HX := Lib.hid (show ExA w2 (Fr2 w.heap.size w2 v) x2 m2 from hx.keep (fun _ _ => rfl) (fun i hi => ⟨by have := hi.1; have := HRL.out; omega, hi.2, fun e => by have := HVB.out i e; have := hi.1; omega⟩))
      have K3 := Lib.hid (K2.out.alloc (.cells (xC m2) 25))
      have HX3 := Lib.hid (show ExA (w2.alloc (.cells (xC m2) 25)) (Fr2 w.heap.size (w2.alloc (.cells (xC m2) 25)) v) x2 m2 from HX.out.keep (fun i hi => ((Below.refl w2.heap.size w2).alloc (Nat.le_refl _) _).block i hi.2.1) (fun i hi => ⟨hi.1, by have := hi.2.1; simp; omega, hi.2.2⟩))
      have RW := Lib.hid (row_newE EX w2 (xC m2) 25 m2 rfl (Nat.lt_succ_self w2.heap.size))
      have hbase : w.heap.size + 1 ≤ (w2.alloc (.cells (xC m2) 25)).heap.size := by have := K3.out.res.lt; exact this
      have HLL := Lib.hid (show ms.length + 1 ≤ 1000000 by have := hlr.out; have := HLT.out; have := K3.out.ln; omega)
      clear hx ht2 hg2 ho hl2 K1 K2 HX hE HVB HT
      go_wp2_with (refine wpList_append_el EX rfl (.tmp 16) (.tmp 19) rfl (w.heap.size + 1) v ms rfl K3.out.own (w2.heap.size + 1) (some ⟨w2.heap.size, 0, none⟩) 1 1 [m2] rfl rfl RW.out (by rw [List.length_singleton]; exact HLL.out) hbase ?_; intro v6 w6 ho6 hg6 hat6)
      have K4 := Lib.hid (K3.out.app HX3.out ho6 hg6 hat6)
      have HSV := Lib.hid (show slN v6 = slN v + 1 by
        obtain ⟨A6, c6, rfl, _⟩ := ho6.at
        obtain ⟨A7, c7, rfl, _⟩ := K3.out.own.at
        simp [slN])
      have HSW := Lib.hid (show slN v ≤ 999999 by
        obtain ⟨A7, c7, rfl, _⟩ := K3.out.own.at
        have := HLL.out
        show ms.length ≤ 999999
        omega)
      clear ho6 hg6 hat6
      go_wp2_with fail
      go_roundw
      case rel => exact ⟨l ++ [x2], ms ++ [m2], r2, K4.out, Lib.hid (by simp), HRN, HRM, HLE⟩
      case measure => have := HSV.out; have := HSW.out; omega
set_option maxHeartbeats 4000000 in
theorem vand (n : Nat) (g : Nat)
    (hR : ∀ (ts : List Tk) (w : World), ts.length ≤ n → TkO w g ts → Calls Tryz.prog 84 #[.pointer (some ⟨g, 0, none⟩)] w (XPost (facE n ts) w g))
    (ts : List Tk) (w : World) (hn : ts.length ≤ n) (ht : TkO w g ts) :
    Calls Tryz.prog 67 #[.pointer (some ⟨g, 0, none⟩)] w (XPost (andE n ts) w g) := by
  have hgl := ht.lt
  have R0 := Lib.hid (Blk.new w xZ 25)
  have G0 := Lib.hid (only_alloc (World.grownBy.refl w (some g)) (.cells xZ 25))
  have HSZ := Lib.hid (show (w.alloc (.cells xZ 25)).heap.size = w.heap.size + 1 by simp)
  have HL := Lib.hid (vlistF (facE n) (fac_less n) n g hR 1 sAnd ts hn _ (ht.alloc (.cells xZ 25)))
  have HE := Lib.hid (show andE n ts = listE (facE n) 1 sAnd ts from rfl)
  have hmf : ∀ (fn : Fn) (first cap : Array Value) (w : World), (Instr.makeFunc fn first cap).run Tryz.prog w = .ok (.func fn first cap) w := fun _ _ _ _ => rfl
  clear ht hR hn
  go_enter Tryz.func67, Tryz.ntmps67
  go_wp2_with fail
  refine HL.out.mono ?_
  intro e w1 hp
  cases ho : listE (facE n) 1 sAnd ts with
  | none =>
    rw [ho] at hp
    obtain ⟨rfl, hg1⟩ := hp
    have HP : XPost (andE n ts) w g (.panicked [{ v := feV, recovered := false }]) w1 := by
      rw [HE.out, ho]
      exact ⟨rfl, only_trans G0.out hg1⟩
    exact ⟨rfl, HP⟩
  | some p =>
  obtain ⟨x, r⟩ := p
  rw [ho] at hp
  obtain ⟨m, rfl, hx, ht1, hg1⟩ := hp
  have HO := Lib.hid (HE.out.trans ho)
  clear HE HL ho
  have RB := Lib.hid (Blk.grown R0.out hg1 (fun e => by injection e with e; omega))
  have P := Lib.hid (wrap_post (cs := xC m) HSZ.out hgl hx ht1 (only_trans G0.out hg1))
  clear hx ht1 hg1 R0 G0 hmf
  go_wp2_with ((with_reducible refine store_blk ?_ 25 (.tmp 2) (.tmp 6) ?_ RB.out (xC m) ?_ ?_ ?_ ?_ ?_ ?_); (iterate 4 rfl); (exact x_sz _); rfl; (exact x_one _))
  refine bodyPost_ret (x_ret (fn := Tryz.f67) rfl _ _ w.heap.size m rfl (Blk.row RB.out _)) rfl ?_
  rw [HO.out]
  exact ⟨m, rfl, P.out⟩
end Go.Proofs.YtpldopoeopjcoaaGreatDoor

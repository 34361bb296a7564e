/- Texts of one proof, laid together. -/
import Derived.Test.YtpldopoeopjcoaaGreatDoorC15
import Derived.Test.YtpldopoeopjcoaaGreatDoorC16
import Derived.Test.YtpldopoeopjcoaaGreatDoorC17
import Derived.Test.YtpldopoeopjcoaaGreatDoorC01
import Derived.Deep.RegionLaw
/- Eval of package expression. -/
namespace Go.Proofs.YtpldopoeopjcoaaGreatDoor
open Go.RowKit
/-- What Eval says. -/
def evalE (x : Ex) (ps : List Pr) : Int := if checkX x = 0 then evX ps x else 0
theorem check_sound {x : Ex} (h : checkX x = 0) : soundX x = true := by
  unfold checkX at h
  split at h
  · split at h
    · assumption
    · omega
  · omega
structure EbS (w : World) (g : Nat) (xs es : Array Value) : Prop where
  x : Blk w g 25 xs
  e : Blk w (g + 1) 39 es
theorem EbS.below {w w' : World} {g : Nat} {xs es : Array Value} (h : EbS w g xs es) (hb : Below w.heap.size w w') : EbS w' g xs es := ⟨Blk.below h.x hb, Blk.below h.e hb⟩
theorem ld_x {w : World} {g : Nat} {m : Xe} (h : Blk w g 25 (xC m)) : (loadVar 25 ⟨g, 0, none⟩).run Tryz.prog w = .ok (.agg (xC m)) w := run_loadVar_row w g _ _ _ _ _ h Tryz.underlying25 rfl (x_sz _)
theorem ld_e {w : World} {g : Nat} {b n t : Int} {v : Value} {c : Bool} (h : Blk w g 39 (evC b n t v c)) : (loadVar 39 ⟨g, 0, none⟩).run Tryz.prog w = .ok (.agg (evC b n t v c)) w := run_loadVar_row w g _ _ _ _ _ h Tryz.underlying39 rfl (ev_sz _ _ _ _ _)
attribute [-go_sem] loadVar
attribute [local go_sem] lv3x lv9x
set_option maxRecDepth 100000 in
set_option maxHeartbeats 8000000 in
theorem vEval (x : Ex) (m : Xe) (h : ByteArray) (b n t : Int) (A : Option Addr) (k0 cp : Nat) (c : Bool) (X : List Rm) (hk0 : k0 = X.length) (w : World) (hx : ExV w w.heap.size x m) (hX : EvAt w A X) (hT : RTys w) (hM : Mx w)
    (hq : (pairsE h b n t c X).length ≤ 1000000 ∧ ∀ p ∈ pairsE h b n t c X, p.tx.size < 4294967281) :
    Calls Tryz.prog 15 #[.agg (xC m), .string h, .agg (evC b n t (.slice A k0 cp) c)] w fun e w' => e = .returned (.int .i64 (evalE x (pairsE h b n t c X))) ∧ Below w.heap.size w w' := by
  have hb0 : Below w.heap.size w ((w.alloc (.cells (xC m) 25)).alloc (.cells (evC b n t (.slice A k0 cp) c) 39)) := ((Below.refl _ _).alloc (Nat.le_refl _) _).alloc (by simp) _
  have hE : Blk ((w.alloc (.cells (xC m) 25)).alloc (.cells (evC b n t (.slice A k0 cp) c) 39)) (w.heap.size + 1) 39 (evC b n t (.slice A k0 cp) c) := by
    have := Blk.new (w.alloc (.cells (xC m) 25)) (evC b n t (.slice A k0 cp) c) 39
    simpa using this
  have XS := Lib.hid (show EbS ((w.alloc (.cells (xC m) 25)).alloc (.cells (evC b n t (.slice A k0 cp) c) 39)) w.heap.size (xC m) (evC b n t (.slice A k0 cp) c) from ⟨(Blk.new w _ _).alloc _, hE⟩)
  have HB0 := Lib.hid hb0
  have HV := Lib.hid (show ∀ W : World, Below w.heap.size w W → ExV W W.heap.size x m from fun W h => (hx.keep (fun i hi => h.block i hi)).more h.size)
  have HPR := Lib.hid (show ∀ W : World, Below w.heap.size w W → Calls Tryz.prog 35 #[.string h, .agg (evC b n t (.slice A k0 cp) c)] W (PPost (pairsE h b n t c X) W) from fun W hb => vpairs h b n t A k0 cp c X hk0 W (hX.below hb) (hT.below hb))
  have HMX := Lib.hid (show ∀ W : World, Below w.heap.size w W → Mx W from fun W h => hM.below h)
  have HQ := Lib.hid hq
  have HE := Lib.hid (show evalE x (pairsE h b n t c X) = if checkX x = 0 then evX (pairsE h b n t c X) x else 0 from rfl)
  have HCK := Lib.hid (vcheckX x m _ (HV.out _ hb0))
  have hlx := XS.out.x
  have hl0 := ld_x hlx
  clear hlx hb0 hE hx hX hT hM hq hk0
  generalize pairsE h b n t c X = ps at *
  go_enter Tryz.func15, Tryz.ntmps15
  go_wp2_with fail
  refine HCK.out.mono ?_
  rintro e w1 ⟨rfl, hb1⟩
  have HB1 := Lib.hid (below_then HB0.out hb1)
  have X1 := Lib.hid (XS.out.below hb1)
  clear hb1 hl0 XS
  by_cases hc : checkX x = 0
  case neg =>
    have hc1 : (checkX x != 0) = true := by simpa using hc
    have HR := Lib.hid (show evalE x ps = 0 by rw [HE.out, if_neg hc])
    clear hc
    go_wp2_with fail
    go_ret
    exact ⟨by rw [HR.out]; rfl, HB1.out⟩
  case pos =>
  have hc1 : (checkX x != 0) = false := by simpa using hc
  have HR := Lib.hid (show evalE x ps = evX ps x by rw [HE.out, if_pos hc])
  have HS := Lib.hid (check_sound hc)
  clear hc
  go_upto_region 3 with (fail)
  have HB := Lib.hid HB1.out.drew
  refine wp_region_held_drew (S := (fun w' => EbS w' w.heap.size (xC m) (evC b n t (.slice A k0 cp) c))) (by kernel_rfl) (X1.out.below (Below.refl _ _).drew) (fun hHeld => ?_)
  refine wpAnyH_take (i := 0) (v := ?_) rfl (by kernel_rfl) (by kernel_rfl) (by kernel_rfl) (fun _ _ _ h => h) (Or.inl ⟨by kernel_rfl, ?_⟩) hHeld ?_
  rotate_left
  · intro w hSw
    have hl := ld_x hSw.x
    go_simp
    first | (with_reducible rfl) | (rw [if_neg (by first | omega | (simp; omega))])
  refine wpAnyH_take (i := 1) (v := ?_) rfl (by kernel_rfl) (by kernel_rfl) (by kernel_rfl) (fun _ _ _ h => h) (Or.inl ⟨by kernel_rfl, ?_⟩) hHeld ?_
  rotate_left
  · intro w hSw
    go_simp
    first | (with_reducible rfl) | (rw [if_neg (by first | omega | (simp; omega))])
  refine wpAnyH_take (i := 2) (v := ?_) rfl (by kernel_rfl) (by kernel_rfl) (by kernel_rfl) (fun _ _ _ h => h) (Or.inl ⟨by kernel_rfl, ?_⟩) hHeld ?_
  rotate_left
  · intro w hSw
    have hl := ld_e hSw.e
    go_simp
    first | (with_reducible rfl) | (rw [if_neg (by first | omega | (simp; omega))])
  refine wpAnyH_ready (rs := [3]) (by kernel_rfl) (by simp) ?_
  refine AllReadyH.cons rfl (fun K hK => ?_) AllReadyH.nil
  go_simp
  refine (HPR.out _ HB.out).mono ?_
  rintro e wl ⟨PA, pc, rfl, ho, hb⟩
  have HB := Lib.hid (below_then HB.out hb)
  have hh := hHeld.below hb
  obtain ⟨A2, c2, e2, hat⟩ := ho.at
  injection e2 with e2 e3 e4
  subst e2
  have PS := Lib.hid (show PsAt wl PA ps from ⟨hat, HQ.out.1, HQ.out.2⟩)
  clear hb ho hat e3 e4
  go_simp
  refine hK.out _ _ hh (fun hHeld => ?_)
  clear hK K
  clear hh
  refine wpAnyH_ready (rs := [4]) (by kernel_rfl) (by simp) ?_
  refine AllReadyH.cons rfl (fun K hK => ?_) AllReadyH.nil
  go_simp
  refine (veval (SizeOf.sizeOf x) x (Nat.le_refl _) HS.out m _ PA ps.length pc ps (HV.out _ HB.out) rfl PS.out (HMX.out _ HB.out)).mono ?_
  rintro e wl ⟨rfl, hb⟩
  have HB := Lib.hid (below_then HB.out hb)
  have hh := hHeld.below hb
  clear hb
  go_simp
  refine hK.out _ _ hh (fun hHeld => ?_)
  clear hK K
  clear hh
  refine wpAnyH_take (i := 5) (v := ?_) rfl (by kernel_rfl) (by kernel_rfl) (by kernel_rfl) (fun _ _ _ h => h) (Or.inl ⟨by kernel_rfl, ?_⟩) hHeld ?_
  rotate_left
  · intro w hSw
    go_simp
    first | (with_reducible rfl) | (rw [if_neg (by first | omega | (simp; omega))])
  refine wpAnyH_done (by kernel_rfl) ?_ _
  go_wp2_with fail
  go_ret
  exact ⟨by rw [HR.out]; rfl, HB.out⟩
end Go.Proofs.YtpldopoeopjcoaaGreatDoor
/- What Eval says of tests of the serial number: plain. -/
namespace Go.Proofs.YtpldopoeopjcoaaGreatDoor
open Go.RowKit
def sSer : ByteArray := ⟨#[115, 101, 114, 105, 97, 108]⟩
def sHost : ByteArray := ⟨#[104, 111, 115, 116]⟩
theorem bs_tl (b : ByteArray) : b.toList = b.data.toList := Lib.toList_data b
theorem nm_no {ps : List Pr} (h : nmsOk ps = true) : ∀ p ∈ ps, (p.nm.toList == sSer.toList) = false ∧ (p.nm.toList == sHost.toList) = false ∧ p.tx.size ≤ 20 := fun p hp => by
  unfold nmsOk at h
  have := List.all_eq_true.1 h p hp
  unfold nmOk at this
  simp only [Bool.and_eq_true, decide_eq_true_eq] at this
  obtain ⟨⟨h1, h2⟩, h3⟩ := this
  refine ⟨?_, ?_, h3⟩
  · rw [bs_tl, bs_tl]
    simpa [bne, sSer] using h1
  · rw [bs_tl, bs_tl]
    simpa [bne, sHost] using h2
theorem step_skip {m : Xe} {l : List Pr} (h : ∀ p ∈ l, (p.nm.toList == m.nm.toList) = false) (r : Int) : l.foldl (stepT m) r = r := by
  induction l with
  | nil => rfl
  | cons p l ih =>
    rw [List.foldl_cons]
    have : stepT m r p = r := by unfold stepT; rw [h p (List.mem_cons_self ..)]; rfl
    rw [this]
    exact ih (fun q hq => h q (List.mem_cons_of_mem _ hq))
/-- The records of an event that the mill makes. -/
def XOk (X : List Rm) : Prop := X.length ≤ 3 ∧ ∀ x ∈ X, x.r.ps.length ≤ 11 ∧ nmsOk x.r.ps = true
theorem flat_len (X : List Rm) (h : ∀ x ∈ X, x.r.ps.length ≤ 11) : (X.flatMap (·.r.ps)).length ≤ X.length * 11 := by
  induction X with
  | nil => simp
  | cons x X ih =>
    have := h x (List.mem_cons_self ..)
    have := ih (fun y hy => h y (List.mem_cons_of_mem _ hy))
    simp only [List.flatMap_cons, List.length_append, List.length_cons]
    omega
theorem name_short (t : Int) : (nameL tyL t).size ≤ 20 := by
  unfold tyL
  simp only [nameL]
  repeat' split
  all_goals decide
theorem pairs_ok (h : ByteArray) (b n t : Int) (c : Bool) (X : List Rm) (hX : XOk X) (hh : h.size ≤ 1000) : (pairsE h b n t c X).length ≤ 1000000 ∧ ∀ p ∈ pairsE h b n t c X, p.tx.size < 4294967281 := by
  have h1 : (hostP h).length ≤ 1 := by unfold hostP; split <;> simp
  have h2 := flat_len X (fun x hx => (hX.2 x hx).1)
  have h3 := hX.1
  refine ⟨by unfold pairsE fourP; simp only [List.length_append, List.length_map, List.length_cons, List.length_nil]; omega, fun p hp => ?_⟩
  unfold pairsE at hp
  simp only [List.mem_append, List.mem_map, List.mem_flatMap] at hp
  rcases hp with ((hp | ⟨x, hx, rfl⟩) | hp) | ⟨x, hx, hp⟩
  · unfold hostP at hp
    split at hp
    · simp at hp
    · rw [List.mem_singleton.1 hp]; show h.size < _; omega
  · have := name_short x.r.ty
    show (nameL tyL x.r.ty).size < _
    omega
  · unfold fourP at hp
    simp only [List.mem_cons, List.not_mem_nil, or_false] at hp
    rcases hp with rfl | rfl | rfl | rfl <;> (show (0 : Nat) < _; decide)
  · have := (nm_no (hX.2 x hx).2 p hp).2.2
    omega
theorem ser_fold (m : Xe) (hm : m.nm = sSer) (h : ByteArray) (b n t : Int) (c : Bool) (X : List Rm) (hX : XOk X) : evT m (pairsE h b n t c X) = stepT m 3 ⟨sSer, 1, n, ⟨#[]⟩⟩ := by
  have a1 : ∀ p ∈ hostP h ++ X.map tyP, (p.nm.toList == m.nm.toList) = false := fun p hp => by
    rw [hm]
    rcases List.mem_append.1 hp with hp | hp
    · unfold hostP at hp
      split at hp
      · simp at hp
      · rw [List.mem_singleton.1 hp]
        show ((⟨#[104, 111, 115, 116]⟩ : ByteArray).toList == sSer.toList) = false
        decide +kernel
    · obtain ⟨x, _, rfl⟩ := List.mem_map.1 hp
      show ((⟨#[116, 121, 112, 101]⟩ : ByteArray).toList == sSer.toList) = false
      decide +kernel
  have a2 : ∀ p ∈ X.flatMap (·.r.ps), (p.nm.toList == m.nm.toList) = false := fun p hp => by
    rw [hm]
    obtain ⟨x, hx, hp⟩ := List.mem_flatMap.1 hp
    exact (nm_no (hX.2 x hx).2 p hp).1
  unfold evT pairsE
  rw [List.foldl_append, List.foldl_append, step_skip a1, step_skip a2]
  unfold fourP
  simp only [List.foldl_cons, List.foldl_nil]
  have s1 : stepT m 3 ⟨⟨#[98, 111, 111, 116]⟩, 1, b, ⟨#[]⟩⟩ = 3 := by
    unfold stepT; rw [hm, show ((⟨#[98, 111, 111, 116]⟩ : ByteArray).toList == sSer.toList) = false by decide +kernel]; rfl
  have s2 : ∀ r, stepT m r ⟨⟨#[116, 105, 109, 101]⟩, 1, t, ⟨#[]⟩⟩ = r := fun r => by
    unfold stepT; rw [hm, show ((⟨#[116, 105, 109, 101]⟩ : ByteArray).toList == sSer.toList) = false by decide +kernel]; rfl
  have s3 : ∀ r (v : Int), stepT m r ⟨⟨#[99, 111, 109, 112, 108, 101, 116, 101]⟩, 1, v, ⟨#[]⟩⟩ = r := fun r v => by
    unfold stepT; rw [hm, show ((⟨#[99, 111, 109, 112, 108, 101, 116, 101]⟩ : ByteArray).toList == sSer.toList) = false by decide +kernel]; rfl
  rw [s1, s2, s3]
  rfl
theorem sound_leaf {op cm kd nu : Int} {nm tx : ByteArray} (h : headX op cm kd nu nm tx 0 = true) : soundX (.mk op cm kd nu nm tx []) = true := by
  rw [soundX_eq, soundL]
  exact h
def serX (k m : Int) : Ex := .mk 4 k 1 m sSer ⟨#[]⟩ []
theorem ser_check (k m : Int) (hk : 1 ≤ k ∧ k ≤ 6) : checkX (serX k m) = 0 := by
  have e : k = 1 ∨ k = 2 ∨ k = 3 ∨ k = 4 ∨ k = 5 ∨ k = 6 := by omega
  unfold checkX serX
  rw [smallX_eq, if_neg (show ¬ ((24 : Int) - 1 < 0 ∨ (6 : Int) < 1) by decide), smallL, if_pos rfl]
  refine if_pos (sound_leaf ?_)
  unfold headX
  rw [if_neg (by decide), if_neg (by decide), if_pos rfl, show nam38 sSer = true by decide +kernel]
  unfold cmpsB
  rw [if_pos rfl, show (⟨#[]⟩ : ByteArray).toList.isEmpty = true by decide +kernel]
  rcases e with rfl | rfl | rfl | rfl | rfl | rfl <;> rfl
theorem ser_eval (k m : Int) (hk : 1 ≤ k ∧ k ≤ 6) (h : ByteArray) (b n t : Int) (c : Bool) (X : List Rm) (hX : XOk X) : evalE (serX k m) (pairsE h b n t c X) = if holdI k m n = true then 1 else 2 := by
  unfold evalE
  rw [if_pos (ser_check k m hk)]
  unfold serX
  rw [evX_eq]
  unfold evN
  rw [if_pos rfl, ser_fold _ rfl h b n t c X hX]
  unfold stepT holdsB
  have : ¬ k = 7 := by omega
  rw [if_neg (show ¬ k = 7 from this), if_neg (by decide : ¬ (1 : Int) = 2)]
  exact if_pos (show (sSer.toList == sSer.toList && (1 : Int) == 1 && (3 : Int) != 1) = true by decide +kernel)
def serT : Ex := .mk 4 1 2 0 sSer ⟨#[49]⟩ []
theorem serT_check : checkX serT = 0 := by
  unfold checkX serT
  rw [smallX_eq, if_neg (show ¬ ((24 : Int) - 1 < 0 ∨ (6 : Int) < 1) by decide), smallL, if_pos rfl]
  exact if_pos (sound_leaf (by decide +kernel))
theorem serT_eval (h : ByteArray) (b n t : Int) (c : Bool) (X : List Rm) (hX : XOk X) : evalE serT (pairsE h b n t c X) = 3 := by
  unfold evalE
  rw [if_pos serT_check]
  unfold serT
  rw [evX_eq]
  unfold evN
  rw [if_pos rfl, ser_fold _ rfl h b n t c X hX]
  unfold stepT
  exact if_neg (by
    show ¬ (sSer.toList == sSer.toList && (1 : Int) == 2 && (3 : Int) != 1) = true
    decide +kernel)
def hasH : Ex := .mk 5 0 0 0 sHost ⟨#[]⟩ []
theorem hasH_check : checkX hasH = 0 := by
  unfold checkX hasH
  rw [smallX_eq, if_neg (show ¬ ((24 : Int) - 1 < 0 ∨ (6 : Int) < 1) by decide), smallL, if_pos rfl]
  exact if_pos (sound_leaf (by decide +kernel))
theorem hasH_ev (ps : List Pr) : evalE hasH ps = if ps.any (fun p => p.nm.toList == sHost.toList) = true then 1 else 2 := by
  unfold evalE
  rw [if_pos hasH_check]
  unfold hasH
  rw [evX_eq]
  unfold evN
  rw [if_neg (by decide), if_pos rfl]
  rfl
theorem hasH_no (b n t : Int) (c : Bool) (X : List Rm) (hX : XOk X) : evalE hasH (pairsE ⟨#[]⟩ b n t c X) = 2 := by
  rw [hasH_ev, if_neg]
  intro h
  obtain ⟨p, hp, he⟩ := List.any_eq_true.1 h
  unfold pairsE at hp
  simp only [List.mem_append, List.mem_map, List.mem_flatMap] at hp
  rcases hp with ((hp | ⟨x, hx, rfl⟩) | hp) | ⟨x, hx, hp⟩
  · unfold hostP at hp
    rw [if_pos (by decide +kernel)] at hp
    cases hp
  · have : ((⟨#[116, 121, 112, 101]⟩ : ByteArray).toList == sHost.toList) = false := by decide +kernel
    exact Bool.false_ne_true (this.symm.trans he)
  · unfold fourP at hp
    simp only [List.mem_cons, List.not_mem_nil, or_false] at hp
    rcases hp with rfl | rfl | rfl | rfl
    · have : ((⟨#[98, 111, 111, 116]⟩ : ByteArray).toList == sHost.toList) = false := by decide +kernel
      exact Bool.false_ne_true (this.symm.trans he)
    · have : (sSer.toList == sHost.toList) = false := by decide +kernel
      exact Bool.false_ne_true (this.symm.trans he)
    · have : ((⟨#[116, 105, 109, 101]⟩ : ByteArray).toList == sHost.toList) = false := by decide +kernel
      exact Bool.false_ne_true (this.symm.trans he)
    · have : ((⟨#[99, 111, 109, 112, 108, 101, 116, 101]⟩ : ByteArray).toList == sHost.toList) = false := by decide +kernel
      exact Bool.false_ne_true (this.symm.trans he)
  · exact Bool.false_ne_true ((nm_no (hX.2 x hx).2 p hp).2.1.symm.trans he)
theorem hasH_yes (b n t : Int) (c : Bool) (X : List Rm) : evalE hasH (pairsE ⟨#[97]⟩ b n t c X) = 1 := by
  rw [hasH_ev, if_pos]
  refine List.any_eq_true.2 ⟨⟨sHost, 2, 0, ⟨#[97]⟩⟩, ?_, by simp⟩
  unfold pairsE hostP
  rw [if_neg (by decide +kernel)]
  simp [sHost]
/-- The mill's event in memory. -/
theorem ev_at {w : World} {base : Nat} {A : Option Addr} {cp : Nat} {X : List Rm} (h1 : OwnE ER w base (.slice A X.length cp) X) (h2 : ∀ x ∈ X, OwnE EP w base x.sl x.r.ps ∧ x.r.ps.length ≤ 11 ∧ nmsOk x.r.ps = true) (h3 : X.length ≤ 3) : EvAt w A X := by
  obtain ⟨A1, c1, e1, a1⟩ := h1.at
  injection e1 with e1 _ _
  subst e1
  refine ⟨a1, fun x hx => ?_, h3⟩
  obtain ⟨A2, c2, e2, a2⟩ := (h2 x hx).1.at
  injection e2 with e2 _ _
  subst e2
  exact ⟨a2, (h2 x hx).2.1⟩
end Go.Proofs.YtpldopoeopjcoaaGreatDoor
/- How many nodes and levels expressions have: plain. -/
namespace Go.Proofs.YtpldopoeopjcoaaGreatDoor
open Go.RowKit
def cntL : List Ex → Nat
  | [] => 0
  | (.mk _ _ _ _ _ _ ls) :: r => 1 + cntL ls + cntL r
termination_by l => SizeOf.sizeOf l
decreasing_by all_goals (simp_wf; omega)
def depL : List Ex → Nat
  | [] => 0
  | (.mk _ _ _ _ _ _ ls) :: r => max (1 + depL ls) (depL r)
termination_by l => SizeOf.sizeOf l
decreasing_by all_goals (simp_wf; omega)
theorem cntL_cons (op cm kd nu : Int) (nm tx : ByteArray) (ls r : List Ex) : cntL (.mk op cm kd nu nm tx ls :: r) = 1 + cntL ls + cntL r := by rw [cntL]
theorem depL_cons (op cm kd nu : Int) (nm tx : ByteArray) (ls r : List Ex) : depL (.mk op cm kd nu nm tx ls :: r) = max (1 + depL ls) (depL r) := by rw [depL]
theorem cntL_nil : cntL [] = 0 := by rw [cntL]
theorem depL_nil : depL [] = 0 := by rw [depL]
theorem cntL_one (x : Ex) (r : List Ex) : cntL (x :: r) = cntL [x] + cntL r := by
  cases x; rw [cntL_cons, cntL_cons, cntL_nil]; omega
theorem depL_one (x : Ex) (r : List Ex) : depL (x :: r) = max (depL [x]) (depL r) := by
  cases x; rw [depL_cons, depL_cons, depL_nil]; omega
theorem small_fit : ∀ (n : Nat) (L : List Ex) (lv left : Int), SizeOf.sizeOf L ≤ n → (depL L : Int) ≤ lv → (cntL L : Int) ≤ left → smallL L lv left = (true, left - cntL L)
  | _, [], lv, left, _, _, _ => by rw [smallL, cntL_nil]; simp
  | 0, .mk _ _ _ _ _ _ _ :: r, _, _, h, _, _ => by simp at h
  | n + 1, .mk op cm kd nu nm tx ls :: r, lv, left, h, hd, hc => by
    have hs : SizeOf.sizeOf ls ≤ n ∧ SizeOf.sizeOf r ≤ n := by simp at h; omega
    rw [depL_cons] at hd
    rw [cntL_cons] at hc ⊢
    rw [smallL, if_neg (by omega), small_fit n ls (lv - 1) (left - 1) hs.1 (by omega) (by omega)]
    simp only [if_true]
    rw [small_fit n r lv (left - 1 - cntL ls) hs.2 (by omega) (by omega)]
    congr 1
    omega
theorem small_cnt : ∀ (n : Nat) (L : List Ex) (lv left : Int), SizeOf.sizeOf L ≤ n → (smallL L lv left).1 = true → (smallL L lv left).2 = left - cntL L ∧ (0 ≤ left → (cntL L : Int) ≤ left)
  | _, [], lv, left, _, _ => by rw [smallL, cntL_nil]; simp
  | 0, .mk _ _ _ _ _ _ _ :: r, _, _, h, _ => by simp at h
  | n + 1, .mk op cm kd nu nm tx ls :: r, lv, left, h, hc => by
    have hs : SizeOf.sizeOf ls ≤ n ∧ SizeOf.sizeOf r ≤ n := by simp at h; omega
    rw [cntL_cons]
    rw [smallL] at hc ⊢
    by_cases h1 : left - 1 < 0 ∨ lv < 1
    · rw [if_pos h1] at hc; cases hc
    · rw [if_neg h1] at hc ⊢
      by_cases h2 : (smallL ls (lv - 1) (left - 1)).1 = true
      · rw [if_pos h2] at hc ⊢
        obtain ⟨a1, a2⟩ := small_cnt n ls (lv - 1) (left - 1) hs.1 h2
        have h3 := a2 (by omega)
        rw [a1] at hc ⊢
        obtain ⟨b1, b2⟩ := small_cnt n r lv (left - 1 - cntL ls) hs.2 hc
        rw [b1]
        refine ⟨by omega, fun h0 => ?_⟩
        have := b2 (by omega)
        omega
      · rw [if_neg h2] at hc; cases hc
theorem check_fit {x : Ex} (hs : soundX x = true) (hd : depL [x] ≤ 6) (hc : cntL [x] ≤ 24) : checkX x = 0 := by
  unfold checkX smallX
  rw [small_fit _ [x] 6 24 (Nat.le_refl _) (by omega) (by omega), hs]
  rfl
theorem check_cnt {x : Ex} (h : checkX x = 0) : cntL [x] ≤ 24 := by
  unfold checkX smallX at h
  split at h
  · rename_i h1
    have := (small_cnt _ [x] 6 24 (Nat.le_refl _) h1).2 (by omega)
    omega
  · omega
/-- What the mill makes. -/
def GoodM (d : Nat) (x : Ex) : Prop := soundX x = true ∧ NumX x ∧ depL [x] ≤ d + 1 ∧ (d ≤ 1 → cntL [x] ≤ 1 + 3 * d)
theorem good_leaf (d : Nat) {op cm kd nu : Int} {nm tx : ByteArray} (h : headX op cm kd nu nm tx 0 = true) (hn : I64 nu) : GoodM d (.mk op cm kd nu nm tx []) := by
  refine ⟨sound_leaf h, NumX.mk _ _ _ _ _ _ _ hn (fun y hy => by cases hy), ?_, fun _ => ?_⟩
  · rw [depL_cons, depL_nil]; omega
  · rw [cntL_cons, cntL_nil]; omega
theorem i64z : I64 0 := ⟨by decide, by decide⟩
theorem good_list {d : Nat} {op : Int} {L : List Ex} (ho : op = 1 ∨ op = 2) (h2 : 2 ≤ L.length) (h3 : L.length ≤ 3) (hL : ∀ y ∈ L, GoodM d y) : GoodM (d + 1) (.mk op 0 0 0 ⟨#[]⟩ ⟨#[]⟩ L) := by
  have hs : ∀ M : List Ex, (∀ y ∈ M, GoodM d y) → soundL M = true ∧ depL M ≤ d + 1 ∧ (d ≤ 1 → cntL M ≤ M.length * (1 + 3 * d)) := fun M => by
    induction M with
    | nil => exact fun _ => ⟨by rw [soundL], by rw [depL_nil]; omega, fun _ => by rw [cntL_nil]; omega⟩
    | cons y M ih =>
      intro h
      obtain ⟨a1, a2, a3⟩ := ih (fun z hz => h z (List.mem_cons_of_mem _ hz))
      obtain ⟨b1, _, b3, b4⟩ := h y (List.mem_cons_self ..)
      refine ⟨by rw [soundL_cons, b1, a1]; rfl, by rw [depL_one]; omega, fun hd => ?_⟩
      have := a3 hd
      have := b4 hd
      rw [cntL_one, List.length_cons, Nat.add_mul]
      omega
  obtain ⟨a1, a2, a3⟩ := hs L hL
  refine ⟨?_, NumX.mk _ _ _ _ _ _ _ i64z (fun y hy => (hL y hy).2.1), ?_, fun hd => ?_⟩
  · rw [soundX_eq, a1]
    unfold headX
    rw [if_pos ho]
    simp only [Bool.true_and, Bool.and_eq_true, decide_eq_true_eq]
    exact ⟨by decide +kernel, h2⟩
  · rw [depL_cons, depL_nil]; omega
  · have h0 : d = 0 := by omega
    subst h0
    have := a3 (by omega)
    rw [cntL_cons, cntL_nil]
    omega
theorem good_not {d : Nat} {y : Ex} (h : GoodM d y) : GoodM (d + 1) (.mk 3 0 0 0 ⟨#[]⟩ ⟨#[]⟩ [y]) := by
  obtain ⟨h1, h2, h3, h4⟩ := h
  refine ⟨?_, NumX.mk _ _ _ _ _ _ _ i64z (fun z hz => by rw [List.mem_singleton.1 hz]; exact h2), ?_, fun hd => ?_⟩
  · rw [soundX_eq, soundL_cons, h1, soundL]
    show (true && true && headX 3 0 0 0 ⟨#[]⟩ ⟨#[]⟩ 1) = true
    decide +kernel
  · rw [depL_cons, depL_nil]; omega
  · have := h4 (by omega)
    rw [cntL_cons, cntL_nil]
    omega
end Go.Proofs.YtpldopoeopjcoaaGreatDoor
/- Names and leaves of the expressions that package kauditmill makes. -/
namespace Go.Proofs.YtpldopoeopjcoaaGreatDoor
open Go.RowKit
def milN : List ByteArray := [⟨#[117, 105, 100]⟩, ⟨#[99, 97, 108, 108]⟩, ⟨#[115, 117, 99, 99, 101, 115, 115]⟩, ⟨#[101, 120, 105, 116]⟩, ⟨#[104, 111, 115, 116]⟩, ⟨#[116, 121, 112, 101]⟩, ⟨#[115, 101, 114, 105, 97, 108]⟩, ⟨#[99, 111, 109, 112, 108, 101, 116, 101]⟩, ⟨#[110, 97, 109, 101]⟩, ⟨#[112, 105, 100]⟩, ⟨#[116, 105, 109, 101]⟩, ⟨#[110, 111, 116, 104, 105, 110, 103]⟩]
def milW : List ByteArray := [⟨#[97]⟩, ⟨#[110, 111]⟩, ⟨#[121, 101, 115]⟩, ⟨#[109, 107, 100, 105, 114]⟩, ⟨#[]⟩, ⟨#[97, 32, 98]⟩, ⟨#[83, 89, 83, 67, 65, 76, 76]⟩, ⟨#[107]⟩]
def milI : List Int := [0, 1, 2, 3, 7, -2, -9223372036854775808, 9223372036854775807]
theorem milN_ok : ∀ s ∈ milN, nam38 s = true ∧ s.size ≤ 16 := by decide +kernel
theorem milW_ok : ∀ s ∈ milW, s.size ≤ 128 := by decide +kernel
theorem milI_ok : ∀ n ∈ milI, I64 n := by
  intro n hn
  unfold milI at hn
  simp only [List.mem_cons, List.not_mem_nil, or_false] at hn
  rcases hn with rfl | rfl | rfl | rfl | rfl | rfl | rfl | rfl <;> exact ⟨by decide, by decide⟩
set_option maxHeartbeats 1000000 in
theorem ca_name (w : World) (base g : Nat) (h : CaOk w base g) : Calls Tryz.prog 18 #[.pointer (some ⟨g, 0, none⟩)] w (CWPost w base g milN) := by
  have H := Lib.hid h
  have hlt := ca_lt h
  have HG := Lib.hid (only_alloc (World.grownBy.refl w (some g)) (.cells #[.string ⟨#[117, 105, 100]⟩, .string ⟨#[99, 97, 108, 108]⟩, .string ⟨#[115, 117, 99, 99, 101, 115, 115]⟩, .string ⟨#[101, 120, 105, 116]⟩, .string ⟨#[104, 111, 115, 116]⟩, .string ⟨#[116, 121, 112, 101]⟩, .string ⟨#[115, 101, 114, 105, 97, 108]⟩, .string ⟨#[99, 111, 109, 112, 108, 101, 116, 101]⟩, .string ⟨#[110, 97, 109, 101]⟩, .string ⟨#[112, 105, 100]⟩, .string ⟨#[116, 105, 109, 101]⟩, .string ⟨#[110, 111, 116, 104, 105, 110, 103]⟩] 9))
  clear h
  go_enter Tryz.func18, Tryz.ntmps18
  go_wp2_with fail
  refine (ca_word _ base g w.heap.size 12 milN 9 (H.out.alloc _) (Blk.new w _ _) (by omega) rfl (by omega) (by omega)).mono ?_
  rintro e w1 ⟨y, rfl, hy, hs, hg⟩
  have HS := Lib.hid hs
  have HG1 := Lib.hid (only_trans HG.out hg)
  clear hs hg
  go_wp2_with fail
  go_ret
  exact ⟨y, rfl, hy, HS.out, HG1.out⟩
theorem leaf_num {d : Nat} {y n : Int} {nm : ByteArray} (hy : 0 ≤ y ∧ y < 6) (hn : n ∈ milI) (hm : nm ∈ milN) : GoodM d (.mk 4 (1 + y) 1 n nm ⟨#[]⟩ []) := by
  refine good_leaf d ?_ (milI_ok n hn)
  unfold headX cmpsB
  rw [if_neg (by decide), if_neg (by decide), if_pos rfl, (milN_ok nm hm).1, if_pos rfl, show (⟨#[]⟩ : ByteArray).toList.isEmpty = true by decide +kernel]
  simp only [decide_true, Bool.true_and, Bool.and_eq_true, decide_eq_true_eq]
  exact ⟨by omega, by omega⟩
theorem leaf_text {d : Nat} {cm : Int} {nm tx : ByteArray} (hc : cm ∈ [(1 : Int), 2, 7]) (ht : tx ∈ milW) (hm : nm ∈ milN) : GoodM d (.mk 4 cm 2 0 nm tx []) := by
  refine good_leaf d ?_ i64z
  have := milW_ok tx ht
  unfold headX cmpsB
  rw [if_neg (by decide), if_neg (by decide), if_pos rfl, (milN_ok nm hm).1, if_neg (by decide), if_pos rfl]
  simp only [List.mem_cons, List.not_mem_nil, or_false] at hc
  simp only [decide_true, Bool.true_and, Bool.and_eq_true, Bool.or_eq_true, decide_eq_true_eq]
  exact ⟨this, by omega⟩
theorem leaf_has {d : Nat} {nm : ByteArray} (hm : nm ∈ milN) : GoodM d (.mk 5 0 0 0 nm ⟨#[]⟩ []) := by
  refine good_leaf d ?_ i64z
  unfold headX
  rw [if_neg (by decide), if_neg (by decide), if_neg (by decide), if_pos rfl, (milN_ok nm hm).1, show (⟨#[]⟩ : ByteArray).toList.isEmpty = true by decide +kernel]
  rfl
/-- What the making of a leaf keeps: the result's block, the expression in block ge. -/
structure LS (w wr : World) (base g ge : Nat) (m : Xe) : Prop where
  res : Blk wr w.heap.size 25 xZ
  xb : Blk wr ge 25 (xC m)
  src : CaOk wr base g
  only : w.grownBy wr (some g)
  h2 : w.heap.size < ge
  h3 : g < w.heap.size
  h4 : base ≤ w.heap.size
section
variable {w wr w' : World} {base g ge : Nat} {m m' : Xe}
theorem LS.step (h : LS w wr base g ge m) (hs : CaOk w' base g) (hg : wr.grownBy w' (some g)) : LS w w' base g ge m := by
  have h1 := h.h2
  have h2 := h.h3
  exact ⟨Blk.grown h.res hg (fun e => by injection e with e; omega), Blk.grown h.xb hg (fun e => by injection e with e; omega), hs, only_trans h.only hg, h.h2, h.h3, h.h4⟩
theorem LS.alloc (h : LS w wr base g ge m) (o : Obj) : LS w (wr.alloc o) base g ge m :=
  ⟨h.res.alloc o, h.xb.alloc o, h.src.alloc o, only_alloc h.only o, h.h2, h.h3, h.h4⟩
theorem LS.set (h : LS w wr base g ge m) (j : Nat) (v : Value) (hm : (xC m).setIfInBounds j v = xC m') : LS w (wr.setCell ⟨ge, j, none⟩ v) base g ge m' := by
  have h1 := h.h2
  have h2 := h.h3
  have h3 := h.h4
  exact ⟨Blk.put_other h.res v (by show w.heap.size ≠ ge; omega), hm ▸ Blk.put h.xb j v, h.src.setCell (by show base ≤ ge; omega) (by show ge ≠ g; omega) _, only_setCell h.only (.inr (by show w.heap.size ≤ ge; omega)) _, h.h2, h.h3, h.h4⟩
theorem ca_row {w : World} {base g k : Nat} (h : CaOk w base g) (hk : base ≤ k) (hg : k ≠ g) (cs : Array Value) : CaOk (w.setRow k cs) base g :=
  h.keep (setRow_other _ _ _ _ (fun e => hg e.symm)) (fun i hi => setRow_other _ _ _ _ (by omega))
theorem LS.row (h : LS w wr base g ge m) (m' : Xe) : LS w (wr.setRow ge (xC m')) base g ge m' := by
  have h1 := h.h2
  have h2 := h.h3
  have h3 := h.h4
  exact ⟨Blk.row_other h.res _ (by omega), Blk.row h.xb _, ca_row h.src (by omega) (by omega) _, only_far h.only (row_only _ _ _) (fun k e => by injection e with e; omega), h.h2, h.h3, h.h4⟩
end
/-- What Expr makes. -/
def EPost (w : World) (base g d : Nat) (e : Ending) (w' : World) : Prop :=
  ∃ (x : Ex) (m : Xe), e = .returned (.agg (xC m)) ∧ ExA w' (Frs w w') x m ∧ GoodM d x ∧ CaOk w' base g ∧ w.grownBy w' (some g)
theorem LS.fin {w wr : World} {base g ge d : Nat} {m : Xe} (h : LS w wr base g ge m) (hA : m.A = none) (hn : m.n = 0) (hs : m.nm.size ≤ maxLen ∧ m.tx.size ≤ maxLen) (hg : GoodM d (.mk m.op m.cm m.kd m.nu m.nm m.tx [])) : EPost w base g d (.returned (.agg (xC m))) (wr.setRow w.heap.size (xC m)) := by
  have h2 := h.h3
  have h3 := h.h4
  obtain ⟨op, cm, kd, nu, nm, tx, A, n, c⟩ := m
  simp only at hA hn hs hg
  subst hA
  subst hn
  exact ⟨_, _, rfl, ExA.leaf _ _ op cm kd nu nm tx c hs, hg, ca_row h.src (by omega) (by omega) _, only_far h.only (row_only _ _ _) (fun k e => by injection e with e; omega)⟩
end Go.Proofs.YtpldopoeopjcoaaGreatDoor
/- Expr of package kauditmill: a leaf. -/
namespace Go.Proofs.YtpldopoeopjcoaaGreatDoor
open Go.RowKit
attribute [local irreducible] GoodM
set_option maxRecDepth 100000 in
set_option maxHeartbeats 16000000 in
theorem ca_expr0 (w : World) (base g d : Nat) (h : CaOk w base g) :
    Calls Tryz.prog 7 #[.pointer (some ⟨g, 0, none⟩), .int .i64 0] w (EPost w base g d) := by
  have hgw := ca_lt h
  have hbw : base ≤ w.heap.size := by have := h.1; omega
  have S0 := Lib.hid (h.alloc (.cells xZ 25))
  have R0 := Lib.hid (Blk.new w xZ 25)
  have O0 := Lib.hid (only_alloc (World.grownBy.refl w (some g)) (.cells xZ 25))
  clear h
  go_enter Tryz.func7, Tryz.ntmps7
  go_wp2_with fail
  refine (ca_int _ base g 8 S0.out (by omega) (by omega)).mono ?_
  rintro e wl ⟨k, rfl, hk0, hk8, hs, hg⟩
  have S := Lib.hid hs
  have O := Lib.hid (only_trans O0.out hg)
  have R := Lib.hid (Blk.grown R0.out hg (fun e => by injection e with e; omega))
  clear hs hg S0 O0 R0
  go_wp2_with fail
  refine (ca_name _ base g S.out).mono ?_
  rintro e wa ⟨nm, rfl, hnm, hs, hg⟩
  have S1 := Lib.hid hs
  have O1 := Lib.hid (only_trans O.out hg)
  have R1 := Lib.hid (Blk.grown R.out hg (fun e => by injection e with e; omega))
  have HNM := Lib.hid hnm
  clear hs hg hnm S O R
  go_wp2_with fail
  refine (ca_int _ base g 6 S1.out (by omega) (by omega)).mono ?_
  rintro e wb ⟨y, rfl, hy0, hy1, hs, hg⟩
  have S2 := Lib.hid (hs.alloc (.cells #[.int .i64 0, .int .i64 1, .int .i64 2, .int .i64 3, .int .i64 7, .int .i64 (-2), .int .i64 (-9223372036854775808), .int .i64 9223372036854775807] 3))
  have R2 := Lib.hid ((Blk.grown R1.out hg (fun e => by injection e with e; omega)).alloc (.cells #[.int .i64 0, .int .i64 1, .int .i64 2, .int .i64 3, .int .i64 7, .int .i64 (-2), .int .i64 (-9223372036854775808), .int .i64 9223372036854775807] 3))
  have O2 := Lib.hid (only_alloc (only_trans O1.out hg) (.cells #[.int .i64 0, .int .i64 1, .int .i64 2, .int .i64 3, .int .i64 7, .int .i64 (-2), .int .i64 (-9223372036854775808), .int .i64 9223372036854775807] 3))
  have P2 := Lib.hid (Blk.new wb #[.int .i64 0, .int .i64 1, .int .i64 2, .int .i64 3, .int .i64 7, .int .i64 (-2), .int .i64 (-9223372036854775808), .int .i64 9223372036854775807] 3)
  have hgb : g < wb.heap.size := ca_lt hs
  have hwb : w.heap.size < wb.heap.size := (Blk.grown R1.out hg (fun e => by injection e with e; omega)).lt
  clear hs hg S1 O1 R1
  go_wp2_with fail
  refine (ca_pick _ base g wb.heap.size 8 milI 3 S2.out P2.out (by omega) rfl (by omega) (by omega)).mono ?_
  rintro e wc ⟨num, rfl, hnum, hs, hg⟩
  have K := Lib.hid (show LS w (wc.alloc (.cells (xC ⟨4, 1 + y, 1, num, nm, ⟨#[]⟩, none, 0, 0⟩) 25)) base g wc.heap.size ⟨4, 1 + y, 1, num, nm, ⟨#[]⟩, none, 0, 0⟩ from
    ⟨(Blk.grown R2.out hg (fun e => by injection e with e; omega)).alloc _, Blk.new wc _ _, hs.alloc _, only_alloc (only_trans O2.out hg) _, by have := hg.size; simp at this; omega, hgw, hbw⟩)
  have HGD := Lib.hid (leaf_num (d := d) ⟨hy0, hy1⟩ hnum HNM.out)
  clear hs hg hnum S2 R2 O2 P2
  go_wp2_with fail
  generalize wc.alloc (.cells (xC ⟨4, 1 + y, 1, num, nm, ⟨#[]⟩, none, 0, 0⟩) 25) = wd at *
  generalize wc.heap.size = ge at *
  refine (ca_bool _ base g 2 K.out.src (by omega) (by omega)).mono ?_
  rintro e we ⟨b1, rfl, hs, hg⟩
  have K1 := Lib.hid (K.out.step hs hg)
  clear hs hg K
  go_upto_if 27 with (fail)
  go_cut [28] (fun _v wx => ∃ m : Xe, LS w wx base g ge m ∧ m.A = none ∧ m.n = 0 ∧ m.nm = nm ∧ m.tx.size ≤ 128 ∧ Hid (GoodM d (.mk m.op m.cm m.kd m.nu m.nm m.tx [])))
  case first =>
    cases b1
    · go_wp2_with fail
      go_meet
      exact ⟨_, K1.out, rfl, rfl, rfl, by show (0 : Nat) ≤ 128; omega, HGD⟩
    · have K2 := Lib.hid (K1.out.alloc (.cells #[.string ⟨#[97]⟩, .string ⟨#[110, 111]⟩, .string ⟨#[121, 101, 115]⟩, .string ⟨#[109, 107, 100, 105, 114]⟩, .string ⟨#[]⟩, .string ⟨#[97, 32, 98]⟩, .string ⟨#[83, 89, 83, 67, 65, 76, 76]⟩, .string ⟨#[107]⟩] 9))
      have P2 := Lib.hid (Blk.new we #[.string ⟨#[97]⟩, .string ⟨#[110, 111]⟩, .string ⟨#[121, 101, 115]⟩, .string ⟨#[109, 107, 100, 105, 114]⟩, .string ⟨#[]⟩, .string ⟨#[97, 32, 98]⟩, .string ⟨#[83, 89, 83, 67, 65, 76, 76]⟩, .string ⟨#[107]⟩] 9)
      have hge := ca_lt K1.out.src
      go_wp2_with fail
      refine (ca_word _ base g we.heap.size 8 milW 9 K2.out.src P2.out (by omega) rfl (by omega) (by omega)).mono ?_
      rintro e wf ⟨tx, rfl, htx, hs, hg⟩
      have K3 := Lib.hid ((K2.out.step hs hg).alloc (.cells #[.int .i64 1, .int .i64 2, .int .i64 7] 3))
      have P3 := Lib.hid (Blk.new wf #[.int .i64 1, .int .i64 2, .int .i64 7] 3)
      have hgf := ca_lt hs
      have HTX := Lib.hid htx
      clear hs hg htx K2 P2 K1
      go_wp2_with fail
      refine (ca_pick _ base g wf.heap.size 3 [1, 2, 7] 3 K3.out.src P3.out (by omega) rfl (by omega) (by omega)).mono ?_
      rintro e wh ⟨cm, rfl, hcm, hs, hg⟩
      have K4 := Lib.hid (K3.out.step hs hg)
      have HG4 := Lib.hid (leaf_text (d := d) hcm HTX.out HNM.out)
      have HT2 := Lib.hid (milW_ok tx HTX.out)
      clear hs hg hcm K3 P3 HGD
      have p2 := K4.out.xb.cell 2
      have f2 := K4.out.xb.free 2
      have k1 := K4.out.set 2 (.int .i64 2) (m' := ⟨4, 1 + y, 2, num, nm, ⟨#[]⟩, none, 0, 0⟩) rfl
      have p3 := k1.xb.cell 3
      have f3 := k1.xb.free 3
      have k2 := k1.set 3 (.int .i64 0) (m' := ⟨4, 1 + y, 2, 0, nm, ⟨#[]⟩, none, 0, 0⟩) rfl
      have p5 := k2.xb.cell 5
      have f5 := k2.xb.free 5
      have k3 := k2.set 5 (.string tx) (m' := ⟨4, 1 + y, 2, 0, nm, tx, none, 0, 0⟩) rfl
      have p1 := k3.xb.cell 1
      have f1 := k3.xb.free 1
      have K8 := Lib.hid (k3.set 1 (.int .i64 cm) (m' := ⟨4, cm, 2, 0, nm, tx, none, 0, 0⟩) rfl)
      clear k1 k2 k3 K4
      go_wp2_with fail
      go_meet
      exact ⟨_, K8.out, rfl, rfl, rfl, HT2.out, HG4⟩
  case rest =>
  obtain ⟨m, hK, hmA, hmn, hmm, hmt, hGD⟩ := hcut
  have K := Lib.hid hK
  have HA := Lib.hid hmA
  have HN0 := Lib.hid hmn
  have HMM := Lib.hid hmm
  have HMT := Lib.hid hmt
  clear hK K1 HGD hmA hmn hmm hmt
  go_wp2_with fail
  refine (ca_bool _ base g 5 K.out.src (by omega) (by omega)).mono ?_
  rintro e wi ⟨b2, rfl, hs, hg⟩
  have K1 := Lib.hid (K.out.step hs hg)
  clear hs hg K
  cases b2
  case false =>
    go_wp2_with (first | ((with_reducible refine load_blk ?_ 25 (.tmp 6) ?_ K1.out.xb ?_ _ Tryz.underlying25 ?_ ?_ ?_); (iterate 4 rfl); exact x_sz _) | ((with_reducible refine store_blk ?_ 25 (.tmp 4) (.tmp 43) ?_ K1.out.res (xC m) ?_ ?_ ?_ ?_ ?_ ?_); (iterate 4 rfl); (exact x_sz _); rfl; (exact x_one _)))
    refine bodyPost_ret (x_ret (fn := Tryz.f7) rfl _ _ w.heap.size m rfl (Blk.row K1.out.res _)) rfl ?_
    exact K1.out.fin HA.out HN0.out ⟨by have h := (milN_ok nm HNM.out).2; rw [← HMM.out] at h; exact Nat.le_trans h (by decide), Nat.le_trans HMT.out (by decide)⟩ hGD.out
  case true =>
    go_wp2_with fail
    refine (ca_name _ base g K1.out.src).mono ?_
    rintro e wj ⟨nm2, rfl, hnm2, hs, hg⟩
    have K2 := Lib.hid (K1.out.step hs hg)
    have K3 := Lib.hid (K2.out.row ⟨5, 0, 0, 0, nm2, ⟨#[]⟩, none, 0, 0⟩)
    have HG2 := Lib.hid (leaf_has (d := d) hnm2)
    have HN2 := Lib.hid (milN_ok nm2 hnm2).2
    clear hs hg hnm2 K1
    go_wp2_with (first | ((with_reducible refine store_blk ?_ 25 (.tmp 6) (.tmp 42) ?_ K2.out.xb (xC ⟨5, 0, 0, 0, nm2, ⟨#[]⟩, none, 0, 0⟩) ?_ ?_ ?_ ?_ ?_ ?_); (iterate 4 rfl); (exact x_sz _); rfl; (exact x_one _)) | ((with_reducible refine load_blk ?_ 25 (.tmp 6) ?_ K3.out.xb ?_ _ Tryz.underlying25 ?_ ?_ ?_); (iterate 4 rfl); exact x_sz _) | ((with_reducible refine store_blk ?_ 25 (.tmp 4) (.tmp 43) ?_ K3.out.res (xC ⟨5, 0, 0, 0, nm2, ⟨#[]⟩, none, 0, 0⟩) ?_ ?_ ?_ ?_ ?_ ?_); (iterate 4 rfl); (exact x_sz _); rfl; (exact x_one _)))
    refine bodyPost_ret (x_ret (fn := Tryz.f7) rfl _ _ w.heap.size ⟨5, 0, 0, 0, nm2, ⟨#[]⟩, none, 0, 0⟩ rfl (Blk.row K3.out.res _)) rfl ?_
    exact K3.out.fin rfl rfl ⟨Nat.le_trans HN2.out (by decide), by show 0 ≤ maxLen; omega⟩ HG2.out
end Go.Proofs.YtpldopoeopjcoaaGreatDoor

/- Texts of one proof, laid together. -/
import Derived.Test.YtpldopoeopjcoaaGreatDoorK15
import Derived.Test.YtpldopoeopjcoaaGreatDoorK16
import Derived.Deep.QuietTactic
import Derived.BigQuiet
/- Eval of package expression. -/
namespace Go.Proofs.YtpldopoeopjcoaaGreatDoor
open Go.RowKit
/-- What Eval says. -/
def evalE (x : Ex) (ps : List Pr) : Int := if checkX x = 0 then evX ps x else 0
theorem check_sound {x : Ex} (h : checkX x = 0) : soundX x = true := by
  unfold checkX at h
  split at h
  · split at h
    · assumption
    · omega
  · omega
structure EbS (w : World) (g : Nat) (xs es : Array Value) : Prop where
  x : Blk w g 25 xs
  e : Blk w (g + 1) 39 es
theorem EbS.below {w w' : World} {g : Nat} {xs es : Array Value} (h : EbS w g xs es) (hb : Below w.heap.size w w') : EbS w' g xs es := ⟨Blk.below h.x hb, Blk.below h.e hb⟩
theorem ld_x {w : World} {g : Nat} {m : Xe} (h : Blk w g 25 (xC m)) : (loadVar 25 ⟨g, 0, none⟩).run Tryz.prog w = .ok (.agg (xC m)) w := run_loadVar_row w g _ _ _ _ _ h Tryz.underlying25 rfl (x_sz _)
theorem ld_e {w : World} {g : Nat} {b n t : Int} {v : Value} {c : Bool} (h : Blk w g 39 (evC b n t v c)) : (loadVar 39 ⟨g, 0, none⟩).run Tryz.prog w = .ok (.agg (evC b n t v c)) w := run_loadVar_row w g _ _ _ _ _ h Tryz.underlying39 rfl (ev_sz _ _ _ _ _)
attribute [-go_sem] loadVar
attribute [local go_sem] lv3x lv9x
set_option maxRecDepth 100000 in
set_option maxHeartbeats 8000000 in
theorem vEval (x : Ex) (m : Xe) (h : ByteArray) (b n t : Int) (A : Option Addr) (k0 cp : Nat) (c : Bool) (X : List Rm) (hk0 : k0 = X.length) (w : World) (hx : ExV w w.heap.size x m) (hX : EvAt w A X) (hT : RTys w) (hM : Mx w)
    (hq : (pairsE h b n t c X).length ≤ 1000000 ∧ ∀ p ∈ pairsE h b n t c X, p.tx.size < 4294967281) :
    Calls Tryz.prog 15 #[.agg (xC m), .string h, .agg (evC b n t (.slice A k0 cp) c)] w fun e w' => e = .returned (.int .i64 (evalE x (pairsE h b n t c X))) ∧ Below w.heap.size w w' := by
  have hb0 : Below w.heap.size w ((w.alloc (.cells (xC m) 25)).alloc (.cells (evC b n t (.slice A k0 cp) c) 39)) := ((Below.refl _ _).alloc (Nat.le_refl _) _).alloc (by simp) _
  have hE : Blk ((w.alloc (.cells (xC m) 25)).alloc (.cells (evC b n t (.slice A k0 cp) c) 39)) (w.heap.size + 1) 39 (evC b n t (.slice A k0 cp) c) := by
    have := Blk.new (w.alloc (.cells (xC m) 25)) (evC b n t (.slice A k0 cp) c) 39
    simpa using this
  have XS := Lib.hid (show EbS ((w.alloc (.cells (xC m) 25)).alloc (.cells (evC b n t (.slice A k0 cp) c) 39)) w.heap.size (xC m) (evC b n t (.slice A k0 cp) c) from ⟨(Blk.new w _ _).alloc _, hE⟩)
  have HB0 := Lib.hid hb0
  have HV := Lib.hid (show ∀ W : World, Below w.heap.size w W → ExV W W.heap.size x m from fun W h => (hx.keep (fun i hi => h.block i hi)).more h.size)
  have HPR := Lib.hid (show ∀ W : World, Below w.heap.size w W → Calls Tryz.prog 35 #[.string h, .agg (evC b n t (.slice A k0 cp) c)] W (PPost (pairsE h b n t c X) W) from fun W hb => vpairs h b n t A k0 cp c X hk0 W (hX.below hb) (hT.below hb))
  have HMX := Lib.hid (show ∀ W : World, Below w.heap.size w W → Mx W from fun W h => hM.below h)
  have HQ := Lib.hid hq
  have HE := Lib.hid (show evalE x (pairsE h b n t c X) = if checkX x = 0 then evX (pairsE h b n t c X) x else 0 from rfl)
  have HCK := Lib.hid (vcheckX x m _ (HV.out _ hb0))
  have hlx := XS.out.x
  have hl0 := ld_x hlx
  clear hlx hb0 hE hx hX hT hM hq hk0
  generalize pairsE h b n t c X = ps at *
  go_enter Tryz.func15, Tryz.ntmps15
  go_wp2_with fail
  refine HCK.out.mono ?_
  rintro e w1 ⟨rfl, hb1⟩
  have HB1 := Lib.hid (below_then HB0.out hb1)
  have X1 := Lib.hid (XS.out.below hb1)
  clear hb1 hl0 XS
  by_cases hc : checkX x = 0
  case neg =>
    have hc1 : (checkX x != 0) = true := by simpa using hc
    have HR := Lib.hid (show evalE x ps = 0 by rw [HE.out, if_neg hc])
    clear hc
    go_wp2_with fail
    go_ret
    exact ⟨by rw [HR.out]; rfl, HB1.out⟩
  case pos =>
  have hc1 : (checkX x != 0) = false := by simpa using hc
  have HR := Lib.hid (show evalE x ps = evX ps x by rw [HE.out, if_pos hc])
  have HS := Lib.hid (check_sound hc)
  clear hc
  go_upto_region 3 with (fail)
  have HB := Lib.hid HB1.out.drew
  refine wp_region_held_drew (S := (fun w' => EbS w' w.heap.size (xC m) (evC b n t (.slice A k0 cp) c))) (by kernel_rfl) (X1.out.below (Below.refl _ _).drew) (fun hHeld => ?_)
  refine wpAnyH_take (i := 0) (v := ?_) rfl (by kernel_rfl) (by kernel_rfl) (by kernel_rfl) (fun _ _ _ h => h) (Or.inl ⟨by kernel_rfl, ?_⟩) hHeld ?_
  rotate_left
  · intro w hSw
    have hl := ld_x hSw.x
    go_simp
    first | (with_reducible rfl) | (rw [if_neg (by first | omega | (simp; omega))])
  refine wpAnyH_take (i := 1) (v := ?_) rfl (by kernel_rfl) (by kernel_rfl) (by kernel_rfl) (fun _ _ _ h => h) (Or.inl ⟨by kernel_rfl, ?_⟩) hHeld ?_
  rotate_left
  · intro w hSw
    go_simp
    first | (with_reducible rfl) | (rw [if_neg (by first | omega | (simp; omega))])
  refine wpAnyH_take (i := 2) (v := ?_) rfl (by kernel_rfl) (by kernel_rfl) (by kernel_rfl) (fun _ _ _ h => h) (Or.inl ⟨by kernel_rfl, ?_⟩) hHeld ?_
  rotate_left
  · intro w hSw
    have hl := ld_e hSw.e
    go_simp
    first | (with_reducible rfl) | (rw [if_neg (by first | omega | (simp; omega))])
  refine wpAnyH_ready (rs := [3]) (by kernel_rfl) (by simp) ?_
  refine AllReadyH.cons rfl (fun K hK => ?_) AllReadyH.nil
  go_simp
  refine (HPR.out _ HB.out).mono ?_
  rintro e wl ⟨PA, pc, rfl, ho, hb⟩
  have HB := Lib.hid (below_then HB.out hb)
  have hh := hHeld.below hb
  obtain ⟨A2, c2, e2, hat⟩ := ho.at
  injection e2 with e2 e3 e4
  subst e2
  have PS := Lib.hid (show PsAt wl PA ps from ⟨hat, HQ.out.1, HQ.out.2⟩)
  clear hb ho hat e3 e4
  go_simp
  refine hK.out _ _ hh (fun hHeld => ?_)
  clear hK K
  clear hh
  refine wpAnyH_ready (rs := [4]) (by kernel_rfl) (by simp) ?_
  refine AllReadyH.cons rfl (fun K hK => ?_) AllReadyH.nil
  go_simp
  refine (veval (SizeOf.sizeOf x) x (Nat.le_refl _) HS.out m _ PA ps.length pc ps (HV.out _ HB.out) rfl PS.out (HMX.out _ HB.out)).mono ?_
  rintro e wl ⟨rfl, hb⟩
  have HB := Lib.hid (below_then HB.out hb)
  have hh := hHeld.below hb
  clear hb
  go_simp
  refine hK.out _ _ hh (fun hHeld => ?_)
  clear hK K
  clear hh
  refine wpAnyH_take (i := 5) (v := ?_) rfl (by kernel_rfl) (by kernel_rfl) (by kernel_rfl) (fun _ _ _ h => h) (Or.inl ⟨by kernel_rfl, ?_⟩) hHeld ?_
  rotate_left
  · intro w hSw
    go_simp
    first | (with_reducible rfl) | (rw [if_neg (by first | omega | (simp; omega))])
  refine wpAnyH_done (by kernel_rfl) ?_ _
  go_wp2_with fail
  go_ret
  exact ⟨by rw [HR.out]; rfl, HB.out⟩
end Go.Proofs.YtpldopoeopjcoaaGreatDoor
/- What Eval says of tests of the serial number: plain. -/
namespace Go.Proofs.YtpldopoeopjcoaaGreatDoor
open Go.RowKit
def sSer : ByteArray := ⟨#[115, 101, 114, 105, 97, 108]⟩
def sHost : ByteArray := ⟨#[104, 111, 115, 116]⟩
theorem bs_tl (b : ByteArray) : b.toList = b.data.toList := Lib.toList_data b
theorem nm_no {ps : List Pr} (h : nmsOk ps = true) : ∀ p ∈ ps, (p.nm.toList == sSer.toList) = false ∧ (p.nm.toList == sHost.toList) = false ∧ p.tx.size ≤ 20 := fun p hp => by
  unfold nmsOk at h
  have := List.all_eq_true.1 h p hp
  unfold nmOk at this
  simp only [Bool.and_eq_true, decide_eq_true_eq] at this
  obtain ⟨⟨h1, h2⟩, h3⟩ := this
  refine ⟨?_, ?_, h3⟩
  · rw [bs_tl, bs_tl]
    simpa [bne, sSer] using h1
  · rw [bs_tl, bs_tl]
    simpa [bne, sHost] using h2
theorem step_skip {m : Xe} {l : List Pr} (h : ∀ p ∈ l, (p.nm.toList == m.nm.toList) = false) (r : Int) : l.foldl (stepT m) r = r := by
  induction l with
  | nil => rfl
  | cons p l ih =>
    rw [List.foldl_cons]
    have : stepT m r p = r := by unfold stepT; rw [h p (List.mem_cons_self ..)]; rfl
    rw [this]
    exact ih (fun q hq => h q (List.mem_cons_of_mem _ hq))
/-- The records of an event that the mill makes. -/
def XOk (X : List Rm) : Prop := X.length ≤ 3 ∧ ∀ x ∈ X, x.r.ps.length ≤ 11 ∧ nmsOk x.r.ps = true
theorem flat_len (X : List Rm) (h : ∀ x ∈ X, x.r.ps.length ≤ 11) : (X.flatMap (·.r.ps)).length ≤ X.length * 11 := by
  induction X with
  | nil => simp
  | cons x X ih =>
    have := h x (List.mem_cons_self ..)
    have := ih (fun y hy => h y (List.mem_cons_of_mem _ hy))
    simp only [List.flatMap_cons, List.length_append, List.length_cons]
    omega
theorem name_short (t : Int) : (nameL tyL t).size ≤ 20 := by
  unfold tyL
  simp only [nameL]
  repeat' split
  all_goals decide
theorem pairs_ok (h : ByteArray) (b n t : Int) (c : Bool) (X : List Rm) (hX : XOk X) (hh : h.size ≤ 1000) : (pairsE h b n t c X).length ≤ 1000000 ∧ ∀ p ∈ pairsE h b n t c X, p.tx.size < 4294967281 := by
  have h1 : (hostP h).length ≤ 1 := by unfold hostP; split <;> simp
  have h2 := flat_len X (fun x hx => (hX.2 x hx).1)
  have h3 := hX.1
  refine ⟨by unfold pairsE fourP; simp only [List.length_append, List.length_map, List.length_cons, List.length_nil]; omega, fun p hp => ?_⟩
  unfold pairsE at hp
  simp only [List.mem_append, List.mem_map, List.mem_flatMap] at hp
  rcases hp with ((hp | ⟨x, hx, rfl⟩) | hp) | ⟨x, hx, hp⟩
  · unfold hostP at hp
    split at hp
    · simp at hp
    · rw [List.mem_singleton.1 hp]; show h.size < _; omega
  · have := name_short x.r.ty
    show (nameL tyL x.r.ty).size < _
    omega
  · unfold fourP at hp
    simp only [List.mem_cons, List.not_mem_nil, or_false] at hp
    rcases hp with rfl | rfl | rfl | rfl <;> (show (0 : Nat) < _; decide)
  · have := (nm_no (hX.2 x hx).2 p hp).2.2
    omega
theorem ser_fold (m : Xe) (hm : m.nm = sSer) (h : ByteArray) (b n t : Int) (c : Bool) (X : List Rm) (hX : XOk X) : evT m (pairsE h b n t c X) = stepT m 3 ⟨sSer, 1, n, ⟨#[]⟩⟩ := by
  have a1 : ∀ p ∈ hostP h ++ X.map tyP, (p.nm.toList == m.nm.toList) = false := fun p hp => by
    rw [hm]
    rcases List.mem_append.1 hp with hp | hp
    · unfold hostP at hp
      split at hp
      · simp at hp
      · rw [List.mem_singleton.1 hp]
        show ((⟨#[104, 111, 115, 116]⟩ : ByteArray).toList == sSer.toList) = false
        decide +kernel
    · obtain ⟨x, _, rfl⟩ := List.mem_map.1 hp
      show ((⟨#[116, 121, 112, 101]⟩ : ByteArray).toList == sSer.toList) = false
      decide +kernel
  have a2 : ∀ p ∈ X.flatMap (·.r.ps), (p.nm.toList == m.nm.toList) = false := fun p hp => by
    rw [hm]
    obtain ⟨x, hx, hp⟩ := List.mem_flatMap.1 hp
    exact (nm_no (hX.2 x hx).2 p hp).1
  unfold evT pairsE
  rw [List.foldl_append, List.foldl_append, step_skip a1, step_skip a2]
  unfold fourP
  simp only [List.foldl_cons, List.foldl_nil]
  have s1 : stepT m 3 ⟨⟨#[98, 111, 111, 116]⟩, 1, b, ⟨#[]⟩⟩ = 3 := by
    unfold stepT; rw [hm, show ((⟨#[98, 111, 111, 116]⟩ : ByteArray).toList == sSer.toList) = false by decide +kernel]; rfl
  have s2 : ∀ r, stepT m r ⟨⟨#[116, 105, 109, 101]⟩, 1, t, ⟨#[]⟩⟩ = r := fun r => by
    unfold stepT; rw [hm, show ((⟨#[116, 105, 109, 101]⟩ : ByteArray).toList == sSer.toList) = false by decide +kernel]; rfl
  have s3 : ∀ r (v : Int), stepT m r ⟨⟨#[99, 111, 109, 112, 108, 101, 116, 101]⟩, 1, v, ⟨#[]⟩⟩ = r := fun r v => by
    unfold stepT; rw [hm, show ((⟨#[99, 111, 109, 112, 108, 101, 116, 101]⟩ : ByteArray).toList == sSer.toList) = false by decide +kernel]; rfl
  rw [s1, s2, s3]
  rfl
theorem sound_leaf {op cm kd nu : Int} {nm tx : ByteArray} (h : headX op cm kd nu nm tx 0 = true) : soundX (.mk op cm kd nu nm tx []) = true := by
  rw [soundX_eq, soundL]
  exact h
def serX (k m : Int) : Ex := .mk 4 k 1 m sSer ⟨#[]⟩ []
theorem ser_check (k m : Int) (hk : 1 ≤ k ∧ k ≤ 6) : checkX (serX k m) = 0 := by
  have e : k = 1 ∨ k = 2 ∨ k = 3 ∨ k = 4 ∨ k = 5 ∨ k = 6 := by omega
  unfold checkX serX
  rw [smallX_eq, if_neg (show ¬ ((24 : Int) - 1 < 0 ∨ (6 : Int) < 1) by decide), smallL, if_pos rfl]
  refine if_pos (sound_leaf ?_)
  unfold headX
  rw [if_neg (by decide), if_neg (by decide), if_pos rfl, show nam38 sSer = true by decide +kernel]
  unfold cmpsB
  rw [if_pos rfl, show (⟨#[]⟩ : ByteArray).toList.isEmpty = true by decide +kernel]
  rcases e with rfl | rfl | rfl | rfl | rfl | rfl <;> rfl
theorem ser_eval (k m : Int) (hk : 1 ≤ k ∧ k ≤ 6) (h : ByteArray) (b n t : Int) (c : Bool) (X : List Rm) (hX : XOk X) : evalE (serX k m) (pairsE h b n t c X) = if holdI k m n = true then 1 else 2 := by
  unfold evalE
  rw [if_pos (ser_check k m hk)]
  unfold serX
  rw [evX_eq]
  unfold evN
  rw [if_pos rfl, ser_fold _ rfl h b n t c X hX]
  unfold stepT holdsB
  have : ¬ k = 7 := by omega
  rw [if_neg (show ¬ k = 7 from this), if_neg (by decide : ¬ (1 : Int) = 2)]
  exact if_pos (show (sSer.toList == sSer.toList && (1 : Int) == 1 && (3 : Int) != 1) = true by decide +kernel)
def serT : Ex := .mk 4 1 2 0 sSer ⟨#[49]⟩ []
theorem serT_check : checkX serT = 0 := by
  unfold checkX serT
  rw [smallX_eq, if_neg (show ¬ ((24 : Int) - 1 < 0 ∨ (6 : Int) < 1) by decide), smallL, if_pos rfl]
  exact if_pos (sound_leaf (by decide +kernel))
theorem serT_eval (h : ByteArray) (b n t : Int) (c : Bool) (X : List Rm) (hX : XOk X) : evalE serT (pairsE h b n t c X) = 3 := by
  unfold evalE
  rw [if_pos serT_check]
  unfold serT
  rw [evX_eq]
  unfold evN
  rw [if_pos rfl, ser_fold _ rfl h b n t c X hX]
  unfold stepT
  exact if_neg (by
    show ¬ (sSer.toList == sSer.toList && (1 : Int) == 2 && (3 : Int) != 1) = true
    decide +kernel)
def hasH : Ex := .mk 5 0 0 0 sHost ⟨#[]⟩ []
theorem hasH_check : checkX hasH = 0 := by
  unfold checkX hasH
  rw [smallX_eq, if_neg (show ¬ ((24 : Int) - 1 < 0 ∨ (6 : Int) < 1) by decide), smallL, if_pos rfl]
  exact if_pos (sound_leaf (by decide +kernel))
theorem hasH_ev (ps : List Pr) : evalE hasH ps = if ps.any (fun p => p.nm.toList == sHost.toList) = true then 1 else 2 := by
  unfold evalE
  rw [if_pos hasH_check]
  unfold hasH
  rw [evX_eq]
  unfold evN
  rw [if_neg (by decide), if_pos rfl]
  rfl
theorem hasH_no (b n t : Int) (c : Bool) (X : List Rm) (hX : XOk X) : evalE hasH (pairsE ⟨#[]⟩ b n t c X) = 2 := by
  rw [hasH_ev, if_neg]
  intro h
  obtain ⟨p, hp, he⟩ := List.any_eq_true.1 h
  unfold pairsE at hp
  simp only [List.mem_append, List.mem_map, List.mem_flatMap] at hp
  rcases hp with ((hp | ⟨x, hx, rfl⟩) | hp) | ⟨x, hx, hp⟩
  · unfold hostP at hp
    rw [if_pos (by decide +kernel)] at hp
    cases hp
  · have : ((⟨#[116, 121, 112, 101]⟩ : ByteArray).toList == sHost.toList) = false := by decide +kernel
    exact Bool.false_ne_true (this.symm.trans he)
  · unfold fourP at hp
    simp only [List.mem_cons, List.not_mem_nil, or_false] at hp
    rcases hp with rfl | rfl | rfl | rfl
    · have : ((⟨#[98, 111, 111, 116]⟩ : ByteArray).toList == sHost.toList) = false := by decide +kernel
      exact Bool.false_ne_true (this.symm.trans he)
    · have : (sSer.toList == sHost.toList) = false := by decide +kernel
      exact Bool.false_ne_true (this.symm.trans he)
    · have : ((⟨#[116, 105, 109, 101]⟩ : ByteArray).toList == sHost.toList) = false := by decide +kernel
      exact Bool.false_ne_true (this.symm.trans he)
    · have : ((⟨#[99, 111, 109, 112, 108, 101, 116, 101]⟩ : ByteArray).toList == sHost.toList) = false := by decide +kernel
      exact Bool.false_ne_true (this.symm.trans he)
  · exact Bool.false_ne_true ((nm_no (hX.2 x hx).2 p hp).2.1.symm.trans he)
theorem hasH_yes (b n t : Int) (c : Bool) (X : List Rm) : evalE hasH (pairsE ⟨#[97]⟩ b n t c X) = 1 := by
  rw [hasH_ev, if_pos]
  refine List.any_eq_true.2 ⟨⟨sHost, 2, 0, ⟨#[97]⟩⟩, ?_, by simp⟩
  unfold pairsE hostP
  rw [if_neg (by decide +kernel)]
  simp [sHost]
/-- The mill's event in memory. -/
theorem ev_at {w : World} {base : Nat} {A : Option Addr} {cp : Nat} {X : List Rm} (h1 : OwnE ER w base (.slice A X.length cp) X) (h2 : ∀ x ∈ X, OwnE EP w base x.sl x.r.ps ∧ x.r.ps.length ≤ 11 ∧ nmsOk x.r.ps = true) (h3 : X.length ≤ 3) : EvAt w A X := by
  obtain ⟨A1, c1, e1, a1⟩ := h1.at
  injection e1 with e1 _ _
  subst e1
  refine ⟨a1, fun x hx => ?_, h3⟩
  obtain ⟨A2, c2, e2, a2⟩ := (h2 x hx).1.at
  injection e2 with e2 _ _
  subst e2
  exact ⟨a2, (h2 x hx).2.1⟩
end Go.Proofs.YtpldopoeopjcoaaGreatDoor
/- The sanity check of the laws about expressions: plain. -/
namespace Go.Proofs.YtpldopoeopjcoaaGreatDoor
open Go.RowKit
def bgL : ByteArray := ⟨#[97, 48, 61, 49, 32, 97, 110, 100, 32, 110, 111, 116, 32, 40, 104, 97, 115, 32, 98, 32, 111, 114, 32, 99, 126, 34, 120, 34, 41]⟩
def bg1 : Ex := .mk 4 1 1 1 ⟨#[97, 48]⟩ ⟨#[]⟩ []
def bg2 : Ex := .mk 5 0 0 0 ⟨#[98]⟩ ⟨#[]⟩ []
def bg3 : Ex := .mk 4 7 2 0 ⟨#[99]⟩ ⟨#[120]⟩ []
def bg4 : Ex := .mk 2 0 0 0 ⟨#[]⟩ ⟨#[]⟩ [bg2, bg3]
def bg5 : Ex := .mk 3 0 0 0 ⟨#[]⟩ ⟨#[]⟩ [bg4]
def bgX : Ex := .mk 1 0 0 0 ⟨#[]⟩ ⟨#[]⟩ [bg1, bg5]
theorem bg_parse : parseE bgL.data.toList = some bgX := begun_parse
theorem small_leaf (op cm kd nu : Int) (nm tx : ByteArray) (lv left : Int) (h : ¬ (left - 1 < 0 ∨ lv < 1)) : smallX (.mk op cm kd nu nm tx []) lv left = (true, left - 1) := by
  rw [smallX_eq, if_neg h, smallL]
theorem bg_check : checkX bgX = 0 := by
  have s1 : smallX bg1 5 23 = (true, 22) := small_leaf _ _ _ _ _ _ _ _ (by decide)
  have s2 : smallX bg2 3 20 = (true, 19) := small_leaf _ _ _ _ _ _ _ _ (by decide)
  have s3 : smallX bg3 3 19 = (true, 18) := small_leaf _ _ _ _ _ _ _ _ (by decide)
  have s4 : smallX bg4 4 21 = (true, 18) := by
    unfold bg4
    rw [smallX_eq, if_neg (by decide), smallL_cons, show smallX bg2 (4 - 1) (21 - 1) = (true, 19) from s2, if_pos rfl, smallL_cons, show smallX bg3 (4 - 1) 19 = (true, 18) from s3, if_pos rfl, smallL]
  have s5 : smallX bg5 5 22 = (true, 18) := by
    unfold bg5
    rw [smallX_eq, if_neg (by decide), smallL_cons, show smallX bg4 (5 - 1) (22 - 1) = (true, 18) from s4, if_pos rfl, smallL]
  have s : smallX bgX 6 24 = (true, 18) := by
    unfold bgX
    rw [smallX_eq, if_neg (by decide), smallL_cons, show smallX bg1 (6 - 1) (24 - 1) = (true, 22) from s1, if_pos rfl, smallL_cons, show smallX bg5 (6 - 1) 22 = (true, 18) from s5, if_pos rfl, smallL]
  have k1 : soundX bg1 = true := sound_leaf (by decide +kernel)
  have k2 : soundX bg2 = true := sound_leaf (by decide +kernel)
  have k3 : soundX bg3 = true := sound_leaf (by decide +kernel)
  have k4 : soundX bg4 = true := by
    unfold bg4
    rw [soundX_eq, soundL_cons, soundL_cons, k2, k3, soundL]
    decide +kernel
  have k5 : soundX bg5 = true := by
    unfold bg5
    rw [soundX_eq, soundL_cons, k4, soundL]
    decide +kernel
  have k : soundX bgX = true := by
    unfold bgX
    rw [soundX_eq, soundL_cons, soundL_cons, k1, k5, soundL]
    decide +kernel
  unfold checkX
  rw [s, k]
  rfl
def bgPs : List Pr := pairsE ⟨#[]⟩ 0 0 0 false [⟨⟨1005, 0, 0, [⟨⟨#[97, 48]⟩, 1, 1, ⟨#[]⟩⟩, ⟨⟨#[99]⟩, 2, 0, ⟨#[121]⟩⟩]⟩, none, 0⟩]
theorem bg_eval : evalE bgX bgPs = 1 := by
  unfold evalE
  rw [if_pos bg_check]
  unfold bgX bg5 bg4 bg1 bg2 bg3
  simp only [evX_eq, List.map_cons, List.map_nil]
  decide +kernel
theorem bg_text : fmtT bgX = bgL := by
  unfold bgX bg5 bg4 bg1 bg2 bg3
  simp only [fmtT_eq, kidT, List.map_cons, List.map_nil]
  decide +kernel
theorem bg_num : NumX bgX := by
  have l : ∀ op cm kd nu nm tx, I64 nu → NumX (.mk op cm kd nu nm tx []) := fun op cm kd nu nm tx h => NumX.mk op cm kd nu nm tx [] h (fun y hy => by cases hy)
  have z : I64 0 := ⟨by decide, by decide⟩
  refine NumX.mk _ _ _ _ _ _ _ z (fun y hy => ?_)
  rcases List.mem_cons.1 hy with rfl | hy
  · exact l _ _ _ _ _ _ ⟨by decide, by decide⟩
  · rw [List.mem_singleton.1 hy]
    refine NumX.mk _ _ _ _ _ _ _ z (fun y hy => ?_)
    rw [List.mem_singleton.1 hy]
    refine NumX.mk _ _ _ _ _ _ _ z (fun y hy => ?_)
    rcases List.mem_cons.1 hy with rfl | hy
    · exact l _ _ _ _ _ _ z
    · rw [List.mem_singleton.1 hy]
      exact l _ _ _ _ _ _ z
theorem bg_parseC : parseC bgL = some bgX := by
  unfold parseC
  rw [if_pos (by decide), bg_parse]
  exact if_pos bg_check
end Go.Proofs.YtpldopoeopjcoaaGreatDoor
/- format of package expression, by the size of the tree. -/
namespace Go.Proofs.YtpldopoeopjcoaaGreatDoor
open Go.RowKit
attribute [local irreducible] sgN numS quoteS joinS
theorem ret_s {a b : ByteArray} (h : a = b) : Ending.returned (.string a) = .returned (.string b) := by rw [h]
set_option maxRecDepth 100000 in
set_option maxHeartbeats 16000000 in
theorem vfmt4 (cm kd nu : Int) (nm tx : ByteArray) (A : Option Addr) (n c : Nat) (hnm : nm.size ≤ 16) (hc : cmpsB cm kd nu tx = true) (hn : I64 nu) (w : World) (hE : Env w) :
    Calls Tryz.prog 22 #[.agg (xC ⟨4, cm, kd, nu, nm, tx, A, n, c⟩)] w fun e w' => e = .returned (.string ((nm ++ sgN cm.toNat) ++ (if kd = 1 then numS nu else quoteS tx))) ∧ Below w.heap.size w w' := by
  have XB := Lib.hid (Blk.new w (xC ⟨4, cm, kd, nu, nm, tx, A, n, c⟩) 25)
  have HB := Lib.hid ((Below.refl w.heap.size w).alloc (Nat.le_refl _) (.cells (xC ⟨4, cm, kd, nu, nm, tx, A, n, c⟩) 25))
  have HE := Lib.hid (fun (W : World) (h : Below w.heap.size w W) => hE.below h)
  have hcm : 1 ≤ cm ∧ cm ≤ 7 ∧ (kd = 1 ∨ (kd = 2 ∧ tx.size ≤ 128)) := by
    unfold cmpsB at hc
    by_cases h1 : kd = 1
    · rw [if_pos h1] at hc
      simp only [Bool.and_eq_true, decide_eq_true_eq] at hc
      exact ⟨hc.1.2, by omega, .inl h1⟩
    · rw [if_neg h1] at hc
      by_cases h2 : kd = 2
      · rw [if_pos h2] at hc
        simp only [Bool.and_eq_true, Bool.or_eq_true, decide_eq_true_eq] at hc
        exact ⟨by omega, by omega, .inr ⟨h2, hc.1.2⟩⟩
      · rw [if_neg h2] at hc; cases hc
  have HS := Lib.hid (fun W : World => show Calls Tryz.prog 36 #[.int .i64 cm] W fun e w' => e = .returned (.string (sgN cm.toNat)) ∧ w' = W by
    have h := vsign cm.toNat (by omega) W
    have e : ((cm.toNat : Nat) : Int) = cm := by omega
    rw [e] at h
    exact h)
  obtain ⟨q0, q1, q2, q3, q4, q5, q6⟩ := xb_cells XB.out
  obtain ⟨hm1, hm2, hk⟩ := hcm
  have z1 := sgN_sz cm.toNat
  have z2 : (nm ++ sgN cm.toNat).size ≤ 18 := by rw [ByteArray.size_append]; omega
  clear hc hE hm1 hm2
  go_enter Tryz.func22, Tryz.ntmps22
  go_wp2_with fail
  go_quiet ((go_at_call 36; exact Calls.quiet_of_same (HS.out _)))
  rcases hk with rfl | ⟨rfl, ht⟩
  · have HI := Lib.hid (fun (W : World) (h : Below w.heap.size w W) => vitoa nu hn.1 hn.2 W (HE.out W h).pow)
    have z3 := numS_szX nu hn
    clear hn
    go_wp2_with fail
    refine (HI.out _ (below_drewN HB.out _)).mono ?_
    rintro e w2 ⟨rfl, hb⟩
    go_wp2_with fail
    go_ret
    exact ⟨rfl, below_then (below_drewN HB.out _) hb⟩
  · have HQ := Lib.hid (fun (W : World) (h : Below w.heap.size w W) => vquote tx W (by unfold maxLen; omega) (HE.out W h).tab)
    have z3 := quoteS_szX tx ht
    clear hn ht
    go_wp2_with fail
    refine (HQ.out _ (below_drewN HB.out _)).mono ?_
    rintro e w2 ⟨rfl, hb⟩
    go_wp2_with fail
    go_ret
    exact ⟨rfl, below_then (below_drewN HB.out _) hb⟩
set_option maxRecDepth 100000 in
set_option maxHeartbeats 16000000 in
theorem vfmt5 (cm kd nu : Int) (nm tx : ByteArray) (A : Option Addr) (n c : Nat) (hnm : nm.size ≤ 16) (w : World) :
    Calls Tryz.prog 22 #[.agg (xC ⟨5, cm, kd, nu, nm, tx, A, n, c⟩)] w fun e w' => e = .returned (.string (⟨#[104, 97, 115, 32]⟩ ++ nm)) ∧ Below w.heap.size w w' := by
  have XB := Lib.hid (Blk.new w (xC ⟨5, cm, kd, nu, nm, tx, A, n, c⟩) 25)
  have HB := Lib.hid ((Below.refl w.heap.size w).alloc (Nat.le_refl _) (.cells (xC ⟨5, cm, kd, nu, nm, tx, A, n, c⟩) 25))
  obtain ⟨q0, q1, q2, q3, q4, q5, q6⟩ := xb_cells XB.out
  go_enter Tryz.func22, Tryz.ntmps22
  go_wp2_with fail
  go_ret
  exact ⟨rfl, HB.out⟩
end Go.Proofs.YtpldopoeopjcoaaGreatDoor
/- format of package expression: the parts. -/
namespace Go.Proofs.YtpldopoeopjcoaaGreatDoor
open Go.RowKit
theorem wrap_yes {op : Int} {y : Ex} {s : ByteArray} (h : wrapB op y = true) : wrapS op y s = (⟨#[40]⟩ ++ s) ++ ⟨#[41]⟩ := if_pos h
theorem wrap_no {op : Int} {y : Ex} {s : ByteArray} (h : wrapB op y = false) : wrapS op y s = s := if_neg (by rw [h]; exact Bool.false_ne_true)
/-- format writes the trees of at most N nodes. -/
def FRec (N : Nat) : Prop := ∀ (y : Ex), SizeOf.sizeOf y ≤ N → soundX y = true → NumX y → (fmtT y).size ≤ 1000000 → ∀ (m : Xe) (w : World), ExV w w.heap.size y m → Env w →
    Calls Tryz.prog 22 #[.agg (xC m)] w fun e w' => e = .returned (.string (fmtT y)) ∧ Below w.heap.size w w'
end Go.Proofs.YtpldopoeopjcoaaGreatDoor
/- format of package expression: and. -/
namespace Go.Proofs.YtpldopoeopjcoaaGreatDoor
open Go.RowKit
attribute [local irreducible] sgN numS quoteS joinS
set_option maxRecDepth 100000 in
set_option maxHeartbeats 16000000 in
theorem vfmt1 (N : Nat) (R : FRec N) (cm kd nu : Int) (nm tx : ByteArray) (ls : List Ex) (A : Option Addr) (c : Nat) (ms : List Xe) (w : World) (hN : SizeOf.sizeOf (Ex.mk 1 cm kd nu nm tx ls) ≤ N + 1) (hsl : soundL ls = true) (hhd : headX 1 cm kd nu nm tx ls.length = true)
    (hni : ∀ y ∈ ls, NumX y) (hlx : (fmtT (.mk 1 cm kd nu nm tx ls)).size ≤ 1000000) (hl : ms.length = ls.length) (hn : ls.length ≤ 1000000) (hat : AtE EX w w.heap.size A ms) (ih : ∀ k (h1 : k < ls.length) (h2 : k < ms.length), ExV w w.heap.size (ls[k]) (ms[k])) (hE : Env w) :
    Calls Tryz.prog 22 #[.agg (xC ⟨1, cm, kd, nu, nm, tx, A, ls.length, c⟩)] w fun e w' => e = .returned (.string (fmtT (.mk 1 cm kd nu nm tx ls))) ∧ Below w.heap.size w w' := by
  have HE := Lib.hid (fmtT_eq 1 cm kd nu nm tx ls)
  have HREC := Lib.hid R
  have HX := Lib.hid (show ∀ W : World, Below w.heap.size w W → ∀ k (h1 : k < ls.length) (h2 : k < ms.length), ExV W W.heap.size (ls[k]) (ms[k]) from fun W hW k h1 h2 => ((ih k h1 h2).keep (fun i hi => hW.block i hi)).more hW.size)
  have HAT := Lib.hid (show ∀ W : World, Below w.heap.size w W → AtE EX W w.heap.size A ms from fun W hW => hat.keep hW (Nat.le_refl _))
  have HSZ := Lib.hid (show ∀ k (h1 : k < ls.length), SizeOf.sizeOf ls[k] ≤ N from fun k h1 => by have := size_at (op := 1) (cm := cm) (kd := kd) (nu := nu) (nm := nm) (tx := tx) h1; omega)
  have HSD := Lib.hid (show ∀ k (h1 : k < ls.length), soundX ls[k] = true from fun k h1 => soundL_all hsl k h1)
  have HNX := Lib.hid (show ∀ k (h1 : k < ls.length), NumX ls[k] from fun k h1 => hni _ (List.getElem_mem h1))
  have HLX := Lib.hid (show ∀ k (h1 : k < ls.length), (fmtT ls[k]).size ≤ 1000000 from fun k h2 => Nat.le_trans (kid_le (List.getElem_mem h2) (fun h => absurd h (by decide)) (by decide) (by decide)) hlx)
  have HMS := Lib.hid hl
  have HNN := Lib.hid hn
  have HEV := Lib.hid (fun (W : World) (h : Below w.heap.size w W) => hE.below h)
  have XB := Lib.hid (Blk.new w (xC ⟨1, cm, kd, nu, nm, tx, A, ls.length, c⟩) 25)
  have HB := Lib.hid ((Below.refl w.heap.size w).alloc (Nat.le_refl _) (.cells (xC ⟨1, cm, kd, nu, nm, tx, A, ls.length, c⟩) 25))
  have HW1 := Lib.hid (show (w.alloc (.cells (xC ⟨1, cm, kd, nu, nm, tx, A, ls.length, c⟩) 25)).heap.size = w.heap.size + 1 by simp)
  have HLN := Lib.hid (show 1 ≤ ls.length from Nat.le_trans (by omega) (head_two hhd (.inl rfl)))
  have HV := Lib.hid (show fmtT (.mk 1 cm kd nu nm tx ls) = joinS ⟨#[32, 97, 110, 100, 32]⟩ (ls.map (kidT 1)) by rw [HE.out]; rfl)
  have HJZ := Lib.hid (show (joinS ⟨#[32, 97, 110, 100, 32]⟩ (ls.map (kidT 1))).size ≤ 1000000 by rw [← HV.out]; exact hlx)
  clear R hat ih hl hN hsl hhd hE hni HE hlx
  have q0 := (xb_cells XB.out).1
  have q6 := (xb_cells XB.out).2.2.2.2.2.2
  go_enter Tryz.func22, Tryz.ntmps22
  go_wp2_with fail
  clear q0 q6
  go_loopw [6, 45] (fun v i wr => ∃ k : Nat, k ≤ ls.length ∧ i = .int .i64 (k : Int) ∧ Blk wr w.heap.size 25 (xC ⟨1, cm, kd, nu, nm, tx, A, ls.length, c⟩) ∧ OwnE ES wr (w.heap.size + 1) v ((ls.take k).map (kidT 1)) ∧ Below w.heap.size w wr) (fun _ i _ => ls.length - (intOf i).toNat)
  case atStart => exact ⟨0, Nat.zero_le _, rfl, XB.out, OwnE.nil _ _, HB.out⟩
  case round =>
    obtain ⟨k, hk, rfl, hxb, hown, hbw⟩ := hrel
    generalize u6 = v at *
    have HBW := Lib.hid hbw
    have HXB := Lib.hid hxb
    have HO := Lib.hid hown
    clear hxb hown XB
    by_cases hlt : k < ls.length
    · have hlt1 : (k : Int) < (ls.length : Int) := by omega
      have hkm : k < ms.length := by rw [HMS.out]; exact hlt
      obtain ⟨ad, rfl, hab, hcx⟩ := HAT.out wr hbw k hkm
      obtain ⟨s0, s1, s2, s3, s4, s5, s6⟩ := x_cells (a := ad.add (k * 7)) hcx
      have HXK := Lib.hid (fun (W : World) (h : Below w.heap.size w W) => HX.out W h k hlt hkm)
      have HZ := Lib.hid (HSZ.out k hlt)
      have HSK := Lib.hid (HSD.out k hlt)
      have HNK := Lib.hid (HNX.out k hlt)
      have HLK := Lib.hid (HLX.out k hlt)
      have HD := Lib.hid (map_take (kidT 1) ls k hlt)
      clear hcx hbw
      generalize ls[k] = y at *
      generalize ms[k] = my at *
      have X3 := Lib.hid (Blk.new wr (xC my) 25)
      have HB3 := Lib.hid (HBW.out.alloc HBW.out.size (.cells (xC my) 25))
      have HMO := Lib.hid ((HXK.out _ HBW.out).op)
      go_wp2_with ((with_reducible refine load_blk ?_ 25 (.tmp 8) ?_ X3.out ?_ _ Tryz.underlying25 ?_ ?_ ?_); (iterate 4 rfl); exact x_sz _)
      refine (HREC.out y HZ.out HSK.out HNK.out HLK.out my _ (HXK.out _ HB3.out) (HEV.out _ HB3.out)).mono ?_
      rintro e w5 ⟨rfl, hb5⟩
      have HB5 := Lib.hid (below_then HB3.out hb5)
      have XB5 := Lib.hid ((HXB.out.alloc (.cells (xC my) 25)).below hb5)
      have X5 := Lib.hid (X3.out.below hb5)
      have O5 := Lib.hid ((HO.out.alloc (.cells (xC my) 25)).below hb5)
      clear s0 s1 s2 s3 s4 s5 s6 hb5 X3 HB3 HXB HO
      have p0 := (xb_cells XB5.out).1
      have y0 := (xb_cells X5.out).1
      generalize hF : fmtT y = F at *
      have HKT := Lib.hid (show kidT 1 y = wrapS 1 y F by unfold kidT; rw [hF])
      have zF : F.size ≤ 1000000 := HLK.out
      have zG : (⟨#[40]⟩ ++ F : ByteArray).size ≤ 1000001 := by rw [ByteArray.size_append]; have : (⟨#[40]⟩ : ByteArray).size = 1 := rfl; omega
      clear hF HLK
      cases d2 : (my.op == 2)
      case true =>
        have HK := Lib.hid (show kidT 1 y = ((⟨#[40]⟩ ++ F) ++ ⟨#[41]⟩) by rw [HKT.out]; exact wrap_yes (by unfold wrapB; rw [← HMO.out, d2]; rfl))
        have K6 := Lib.hid (O5.out.alloc (.cells #[.string ((⟨#[40]⟩ ++ F) ++ ⟨#[41]⟩)] 9))
        have B6 := Lib.hid (HB5.out.alloc HB5.out.size (.cells #[.string ((⟨#[40]⟩ ++ F) ++ ⟨#[41]⟩)] 9))
        have XB6 := Lib.hid (XB5.out.alloc (.cells #[.string ((⟨#[40]⟩ ++ F) ++ ⟨#[41]⟩)] 9))
        have RW := Lib.hid (row_newE ES w5 #[.string ((⟨#[40]⟩ ++ F) ++ ⟨#[41]⟩)] 9 ((⟨#[40]⟩ ++ F) ++ ⟨#[41]⟩) rfl (Nat.lt_succ_self w5.heap.size))
        have HTL := Lib.hid (show ((ls.take k).map (kidT 1)).length + 1 ≤ 1000000 by rw [List.length_map, List.length_take]; have := HNN.out; omega)
        have hbase : w.heap.size + 1 ≤ (w5.alloc (.cells #[.string ((⟨#[40]⟩ ++ F) ++ ⟨#[41]⟩)] 9)).heap.size := by have := XB6.out.lt; exact this
        clear O5 HB5 XB5 X5
        go_wp2_with (refine wpList_append_el ES rfl (.tmp 67) (.tmp 69) rfl (w.heap.size + 1) v _ rfl K6.out (w5.heap.size + 1) (some ⟨w5.heap.size, 0, none⟩) 1 1 [((⟨#[40]⟩ ++ F) ++ ⟨#[41]⟩)] rfl rfl RW.out HTL.out hbase ?_; intro v6 w6 ho6 hg6 hat6)
        have O6 := Lib.hid (show OwnE ES w6 (w.heap.size + 1) v6 ((ls.take (k + 1)).map (kidT 1)) by rw [HD.out, HK.out]; exact ho6)
        have B7 := Lib.hid (B6.out.grown hg6 B6.out.size (fun k e => by have := K6.out.ge k e; omega))
        have XB7 := Lib.hid (Blk.grown XB6.out hg6 (fun e => by have := K6.out.ge _ e; omega))
        clear ho6 hg6 hat6 K6 B6 XB6 RW p0 y0
        go_wp2_with fail
        go_roundw
        case rel => exact ⟨k + 1, by omega, by go_num, XB7.out, O6.out, B7.out⟩
        case measure => simp [intOf]; omega
      case false =>
        cases d1 : (my.op == 1)
        case true =>
          have HK := Lib.hid (show kidT 1 y = ((⟨#[40]⟩ ++ F) ++ ⟨#[41]⟩) by rw [HKT.out]; exact wrap_yes (by unfold wrapB; rw [← HMO.out, d2, d1]; rfl))
          have K6 := Lib.hid (O5.out.alloc (.cells #[.string ((⟨#[40]⟩ ++ F) ++ ⟨#[41]⟩)] 9))
          have B6 := Lib.hid (HB5.out.alloc HB5.out.size (.cells #[.string ((⟨#[40]⟩ ++ F) ++ ⟨#[41]⟩)] 9))
          have XB6 := Lib.hid (XB5.out.alloc (.cells #[.string ((⟨#[40]⟩ ++ F) ++ ⟨#[41]⟩)] 9))
          have RW := Lib.hid (row_newE ES w5 #[.string ((⟨#[40]⟩ ++ F) ++ ⟨#[41]⟩)] 9 ((⟨#[40]⟩ ++ F) ++ ⟨#[41]⟩) rfl (Nat.lt_succ_self w5.heap.size))
          have HTL := Lib.hid (show ((ls.take k).map (kidT 1)).length + 1 ≤ 1000000 by rw [List.length_map, List.length_take]; have := HNN.out; omega)
          have hbase : w.heap.size + 1 ≤ (w5.alloc (.cells #[.string ((⟨#[40]⟩ ++ F) ++ ⟨#[41]⟩)] 9)).heap.size := by have := XB6.out.lt; exact this
          clear O5 HB5 XB5 X5
          go_wp2_with (refine wpList_append_el ES rfl (.tmp 67) (.tmp 69) rfl (w.heap.size + 1) v _ rfl K6.out (w5.heap.size + 1) (some ⟨w5.heap.size, 0, none⟩) 1 1 [((⟨#[40]⟩ ++ F) ++ ⟨#[41]⟩)] rfl rfl RW.out HTL.out hbase ?_; intro v6 w6 ho6 hg6 hat6)
          have O6 := Lib.hid (show OwnE ES w6 (w.heap.size + 1) v6 ((ls.take (k + 1)).map (kidT 1)) by rw [HD.out, HK.out]; exact ho6)
          have B7 := Lib.hid (B6.out.grown hg6 B6.out.size (fun k e => by have := K6.out.ge k e; omega))
          have XB7 := Lib.hid (Blk.grown XB6.out hg6 (fun e => by have := K6.out.ge _ e; omega))
          clear ho6 hg6 hat6 K6 B6 XB6 RW p0 y0
          go_wp2_with fail
          go_roundw
          case rel => exact ⟨k + 1, by omega, by go_num, XB7.out, O6.out, B7.out⟩
          case measure => simp [intOf]; omega
        case false =>
          have HK := Lib.hid (show kidT 1 y = F by rw [HKT.out]; exact wrap_no (by unfold wrapB; rw [← HMO.out, d2, d1]; rfl))
          have K6 := Lib.hid (O5.out.alloc (.cells #[.string F] 9))
          have B6 := Lib.hid (HB5.out.alloc HB5.out.size (.cells #[.string F] 9))
          have XB6 := Lib.hid (XB5.out.alloc (.cells #[.string F] 9))
          have RW := Lib.hid (row_newE ES w5 #[.string F] 9 F rfl (Nat.lt_succ_self w5.heap.size))
          have HTL := Lib.hid (show ((ls.take k).map (kidT 1)).length + 1 ≤ 1000000 by rw [List.length_map, List.length_take]; have := HNN.out; omega)
          have hbase : w.heap.size + 1 ≤ (w5.alloc (.cells #[.string F] 9)).heap.size := by have := XB6.out.lt; exact this
          clear O5 HB5 XB5 X5
          go_wp2_with (refine wpList_append_el ES rfl (.tmp 67) (.tmp 69) rfl (w.heap.size + 1) v _ rfl K6.out (w5.heap.size + 1) (some ⟨w5.heap.size, 0, none⟩) 1 1 [F] rfl rfl RW.out HTL.out hbase ?_; intro v6 w6 ho6 hg6 hat6)
          have O6 := Lib.hid (show OwnE ES w6 (w.heap.size + 1) v6 ((ls.take (k + 1)).map (kidT 1)) by rw [HD.out, HK.out]; exact ho6)
          have B7 := Lib.hid (B6.out.grown hg6 B6.out.size (fun k e => by have := K6.out.ge k e; omega))
          have XB7 := Lib.hid (Blk.grown XB6.out hg6 (fun e => by have := K6.out.ge _ e; omega))
          clear ho6 hg6 hat6 K6 B6 XB6 RW p0 y0
          go_wp2_with fail
          go_roundw
          case rel => exact ⟨k + 1, by omega, by go_num, XB7.out, O6.out, B7.out⟩
          case measure => simp [intOf]; omega
    · have hlt1 : ¬ (k : Int) < (ls.length : Int) := by omega
      have hke : k = ls.length := by omega
      have O1 := Lib.hid (show OwnE ES wr (w.heap.size + 1) v (ls.map (kidT 1)) by have := HO.out; rw [hke, List.take_length] at this; exact this)
      have p0 := (xb_cells HXB.out).1
      clear HO hbw hke
      obtain ⟨A1, c1, rfl, _⟩ := O1.out.at
      have HJ := Lib.hid (vjoinE (ls.map (kidT 1)) ⟨#[32, 97, 110, 100, 32]⟩ wr rfl (by rw [List.length_map]; exact HLN.out) (by rw [List.length_map]; have := HNN.out; omega) O1.out HJZ.out)
      generalize (ls.map (kidT 1)).length = nj at *
      clear O1
      go_wp2_with fail
      refine HJ.out.mono ?_
      rintro e w7 ⟨rfl, hb7⟩
      go_wp2_with fail
      go_ret
      exact ⟨ret_s (by rw [HV.out]), below_then HBW.out hb7⟩
end Go.Proofs.YtpldopoeopjcoaaGreatDoor

/- Texts of one proof, laid together. -/
import Derived.Test.YtpldopoeopjcoaaGreatDoorC15
import Derived.Test.YtpldopoeopjcoaaGreatDoorC16
import Derived.Test.YtpldopoeopjcoaaGreatDoorC17
/- Eval of package expression. -/
namespace Go.Proofs.YtpldopoeopjcoaaGreatDoor
open Go.RowKit
/-- What Eval says. -/
def evalE (x : Ex) (ps : List Pr) : Int := if checkX x = 0 then evX ps x else 0
theorem check_sound {x : Ex} (h : checkX x = 0) : soundX x = true := by
  unfold checkX at h
  split at h
  · split at h
    · assumption
    · omega
  · omega
structure EbS (w : World) (g : Nat) (xs es : Array Value) : Prop where
  x : Blk w g 25 xs
  e : Blk w (g + 1) 39 es
theorem EbS.below {w w' : World} {g : Nat} {xs es : Array Value} (h : EbS w g xs es) (hb : Below w.heap.size w w') : EbS w' g xs es := ⟨Blk.below h.x hb, Blk.below h.e hb⟩
theorem ld_x {w : World} {g : Nat} {m : Xe} (h : Blk w g 25 (xC m)) : (loadVar 25 ⟨g, 0, none⟩).run Tryz.prog w = .ok (.agg (xC m)) w := run_loadVar_row w g _ _ _ _ _ h Tryz.underlying25 rfl (x_sz _)
theorem ld_e {w : World} {g : Nat} {b n t : Int} {v : Value} {c : Bool} (h : Blk w g 39 (evC b n t v c)) : (loadVar 39 ⟨g, 0, none⟩).run Tryz.prog w = .ok (.agg (evC b n t v c)) w := run_loadVar_row w g _ _ _ _ _ h Tryz.underlying39 rfl (ev_sz _ _ _ _ _)
attribute [-go_sem] loadVar
attribute [local go_sem] lv3x lv9x
set_option maxRecDepth 100000 in
set_option maxHeartbeats 8000000 in
theorem vEval (x : Ex) (m : Xe) (h : ByteArray) (b n t : Int) (A : Option Addr) (k0 cp : Nat) (c : Bool) (X : List Rm) (hk0 : k0 = X.length) (w : World) (hx : ExV w w.heap.size x m) (hX : EvAt w A X) (hT : RTys w) (hM : Mx w)
    (hq : (pairsE h b n t c X).length ≤ 1000000 ∧ ∀ p ∈ pairsE h b n t c X, p.tx.size < 4294967281) :
    Calls Tryz.prog 15 #[.agg (xC m), .string h, .agg (evC b n t (.slice A k0 cp) c)] w fun e w' => e = .returned (.int .i64 (evalE x (pairsE h b n t c X))) ∧ Below w.heap.size w w' := by
  have hb0 : Below w.heap.size w ((w.alloc (.cells (xC m) 25)).alloc (.cells (evC b n t (.slice A k0 cp) c) 39)) := ((Below.refl _ _).alloc (Nat.le_refl _) _).alloc (by simp) _
  have hE : Blk ((w.alloc (.cells (xC m) 25)).alloc (.cells (evC b n t (.slice A k0 cp) c) 39)) (w.heap.size + 1) 39 (evC b n t (.slice A k0 cp) c) := by
    have := Blk.new (w.alloc (.cells (xC m) 25)) (evC b n t (.slice A k0 cp) c) 39
    simpa using this
  have XS := Lib.hid (show EbS ((w.alloc (.cells (xC m) 25)).alloc (.cells (evC b n t (.slice A k0 cp) c) 39)) w.heap.size (xC m) (evC b n t (.slice A k0 cp) c) from ⟨(Blk.new w _ _).alloc _, hE⟩)
  have HB0 := Lib.hid hb0
  have HV := Lib.hid (show ∀ W : World, Below w.heap.size w W → ExV W W.heap.size x m from fun W h => (hx.keep (fun i hi => h.block i hi)).more h.size)
  have HPR := Lib.hid (show ∀ W : World, Below w.heap.size w W → Calls Tryz.prog 35 #[.string h, .agg (evC b n t (.slice A k0 cp) c)] W (PPost (pairsE h b n t c X) W) from fun W hb => vpairs h b n t A k0 cp c X hk0 W (hX.below hb) (hT.below hb))
  have HMX := Lib.hid (show ∀ W : World, Below w.heap.size w W → Mx W from fun W h => hM.below h)
  have HQ := Lib.hid hq
  have HE := Lib.hid (show evalE x (pairsE h b n t c X) = if checkX x = 0 then evX (pairsE h b n t c X) x else 0 from rfl)
  have HCK := Lib.hid (vcheckX x m _ (HV.out _ hb0))
  have hlx := XS.out.x
  have hl0 := ld_x hlx
  clear hlx hb0 hE hx hX hT hM hq hk0
  generalize pairsE h b n t c X = ps at *
  go_enter Tryz.func15, Tryz.ntmps15
  go_wp2_with fail
  refine HCK.out.mono ?_
  rintro e w1 ⟨rfl, hb1⟩
  have HB1 := Lib.hid (below_then HB0.out hb1)
  have X1 := Lib.hid (XS.out.below hb1)
  clear hb1 hl0 XS
  by_cases hc : checkX x = 0
  case neg =>
    have hc1 : (checkX x != 0) = true := by simpa using hc
    have HR := Lib.hid (show evalE x ps = 0 by rw [HE.out, if_neg hc])
    clear hc
    go_wp2_with fail
    go_ret
    exact ⟨by rw [HR.out]; rfl, HB1.out⟩
  case pos =>
  have hc1 : (checkX x != 0) = false := by simpa using hc
  have HR := Lib.hid (show evalE x ps = evX ps x by rw [HE.out, if_pos hc])
  have HS := Lib.hid (check_sound hc)
  clear hc
  go_upto_region 3 with (fail)
  have HB := Lib.hid HB1.out.drew
  refine wp_region_held_drew (S := (fun w' => EbS w' w.heap.size (xC m) (evC b n t (.slice A k0 cp) c))) (by kernel_rfl) (X1.out.below (Below.refl _ _).drew) (fun hHeld => ?_)
  refine wpAnyH_take (i := 0) (v := ?_) rfl (by kernel_rfl) (by kernel_rfl) (by kernel_rfl) (fun _ _ _ h => h) (Or.inl ⟨by kernel_rfl, ?_⟩) hHeld ?_
  rotate_left
  · intro w hSw
    have hl := ld_x hSw.x
    go_simp
    first | (with_reducible rfl) | (rw [if_neg (by first | omega | (simp; omega))])
  refine wpAnyH_take (i := 1) (v := ?_) rfl (by kernel_rfl) (by kernel_rfl) (by kernel_rfl) (fun _ _ _ h => h) (Or.inl ⟨by kernel_rfl, ?_⟩) hHeld ?_
  rotate_left
  · intro w hSw
    go_simp
    first | (with_reducible rfl) | (rw [if_neg (by first | omega | (simp; omega))])
  refine wpAnyH_take (i := 2) (v := ?_) rfl (by kernel_rfl) (by kernel_rfl) (by kernel_rfl) (fun _ _ _ h => h) (Or.inl ⟨by kernel_rfl, ?_⟩) hHeld ?_
  rotate_left
  · intro w hSw
    have hl := ld_e hSw.e
    go_simp
    first | (with_reducible rfl) | (rw [if_neg (by first | omega | (simp; omega))])
  refine wpAnyH_ready (rs := [3]) (by kernel_rfl) (by simp) ?_
  refine AllReadyH.cons rfl (fun K hK => ?_) AllReadyH.nil
  go_simp
  refine (HPR.out _ HB.out).mono ?_
  rintro e wl ⟨PA, pc, rfl, ho, hb⟩
  have HB := Lib.hid (below_then HB.out hb)
  have hh := hHeld.below hb
  obtain ⟨A2, c2, e2, hat⟩ := ho.at
  injection e2 with e2 e3 e4
  subst e2
  have PS := Lib.hid (show PsAt wl PA ps from ⟨hat, HQ.out.1, HQ.out.2⟩)
  clear hb ho hat e3 e4
  go_simp
  refine hK.out _ _ hh (fun hHeld => ?_)
  clear hK K
  clear hh
  refine wpAnyH_ready (rs := [4]) (by kernel_rfl) (by simp) ?_
  refine AllReadyH.cons rfl (fun K hK => ?_) AllReadyH.nil
  go_simp
  refine (veval (SizeOf.sizeOf x) x (Nat.le_refl _) HS.out m _ PA ps.length pc ps (HV.out _ HB.out) rfl PS.out (HMX.out _ HB.out)).mono ?_
  rintro e wl ⟨rfl, hb⟩
  have HB := Lib.hid (below_then HB.out hb)
  have hh := hHeld.below hb
  clear hb
  go_simp
  refine hK.out _ _ hh (fun hHeld => ?_)
  clear hK K
  clear hh
  refine wpAnyH_take (i := 5) (v := ?_) rfl (by kernel_rfl) (by kernel_rfl) (by kernel_rfl) (fun _ _ _ h => h) (Or.inl ⟨by kernel_rfl, ?_⟩) hHeld ?_
  rotate_left
  · intro w hSw
    go_simp
    first | (with_reducible rfl) | (rw [if_neg (by first | omega | (simp; omega))])
  refine wpAnyH_done (by kernel_rfl) ?_ _
  go_wp2_with fail
  go_ret
  exact ⟨by rw [HR.out]; rfl, HB.out⟩
end Go.Proofs.YtpldopoeopjcoaaGreatDoor
/- What Eval says of tests of the serial number: plain. -/
namespace Go.Proofs.YtpldopoeopjcoaaGreatDoor
open Go.RowKit
def sSer : ByteArray := ⟨#[115, 101, 114, 105, 97, 108]⟩
def sHost : ByteArray := ⟨#[104, 111, 115, 116]⟩
theorem bs_tl (b : ByteArray) : b.toList = b.data.toList := Lib.toList_data b
theorem nm_no {ps : List Pr} (h : nmsOk ps = true) : ∀ p ∈ ps, (p.nm.toList == sSer.toList) = false ∧ (p.nm.toList == sHost.toList) = false ∧ p.tx.size ≤ 20 := fun p hp => by
  unfold nmsOk at h
  have := List.all_eq_true.1 h p hp
  unfold nmOk at this
  simp only [Bool.and_eq_true, decide_eq_true_eq] at this
  obtain ⟨⟨h1, h2⟩, h3⟩ := this
  refine ⟨?_, ?_, h3⟩
  · rw [bs_tl, bs_tl]
    simpa [bne, sSer] using h1
  · rw [bs_tl, bs_tl]
    simpa [bne, sHost] using h2
theorem step_skip {m : Xe} {l : List Pr} (h : ∀ p ∈ l, (p.nm.toList == m.nm.toList) = false) (r : Int) : l.foldl (stepT m) r = r := by
  induction l with
  | nil => rfl
  | cons p l ih =>
    rw [List.foldl_cons]
    have : stepT m r p = r := by unfold stepT; rw [h p (List.mem_cons_self ..)]; rfl
    rw [this]
    exact ih (fun q hq => h q (List.mem_cons_of_mem _ hq))
/-- The records of an event that the mill makes. -/
def XOk (X : List Rm) : Prop := X.length ≤ 3 ∧ ∀ x ∈ X, x.r.ps.length ≤ 11 ∧ nmsOk x.r.ps = true
theorem flat_len (X : List Rm) (h : ∀ x ∈ X, x.r.ps.length ≤ 11) : (X.flatMap (·.r.ps)).length ≤ X.length * 11 := by
  induction X with
  | nil => simp
  | cons x X ih =>
    have := h x (List.mem_cons_self ..)
    have := ih (fun y hy => h y (List.mem_cons_of_mem _ hy))
    simp only [List.flatMap_cons, List.length_append, List.length_cons]
    omega
theorem name_short (t : Int) : (nameL tyL t).size ≤ 20 := by
  unfold tyL
  simp only [nameL]
  repeat' split
  all_goals decide
theorem pairs_ok (h : ByteArray) (b n t : Int) (c : Bool) (X : List Rm) (hX : XOk X) (hh : h.size ≤ 1000) : (pairsE h b n t c X).length ≤ 1000000 ∧ ∀ p ∈ pairsE h b n t c X, p.tx.size < 4294967281 := by
  have h1 : (hostP h).length ≤ 1 := by unfold hostP; split <;> simp
  have h2 := flat_len X (fun x hx => (hX.2 x hx).1)
  have h3 := hX.1
  refine ⟨by unfold pairsE fourP; simp only [List.length_append, List.length_map, List.length_cons, List.length_nil]; omega, fun p hp => ?_⟩
  unfold pairsE at hp
  simp only [List.mem_append, List.mem_map, List.mem_flatMap] at hp
  rcases hp with ((hp | ⟨x, hx, rfl⟩) | hp) | ⟨x, hx, hp⟩
  · unfold hostP at hp
    split at hp
    · simp at hp
    · rw [List.mem_singleton.1 hp]; show h.size < _; omega
  · have := name_short x.r.ty
    show (nameL tyL x.r.ty).size < _
    omega
  · unfold fourP at hp
    simp only [List.mem_cons, List.not_mem_nil, or_false] at hp
    rcases hp with rfl | rfl | rfl | rfl <;> (show (0 : Nat) < _; decide)
  · have := (nm_no (hX.2 x hx).2 p hp).2.2
    omega
theorem ser_fold (m : Xe) (hm : m.nm = sSer) (h : ByteArray) (b n t : Int) (c : Bool) (X : List Rm) (hX : XOk X) : evT m (pairsE h b n t c X) = stepT m 3 ⟨sSer, 1, n, ⟨#[]⟩⟩ := by
  have a1 : ∀ p ∈ hostP h ++ X.map tyP, (p.nm.toList == m.nm.toList) = false := fun p hp => by
    rw [hm]
    rcases List.mem_append.1 hp with hp | hp
    · unfold hostP at hp
      split at hp
      · simp at hp
      · rw [List.mem_singleton.1 hp]
        show ((⟨#[104, 111, 115, 116]⟩ : ByteArray).toList == sSer.toList) = false
        decide +kernel
    · obtain ⟨x, _, rfl⟩ := List.mem_map.1 hp
      show ((⟨#[116, 121, 112, 101]⟩ : ByteArray).toList == sSer.toList) = false
      decide +kernel
  have a2 : ∀ p ∈ X.flatMap (·.r.ps), (p.nm.toList == m.nm.toList) = false := fun p hp => by
    rw [hm]
    obtain ⟨x, hx, hp⟩ := List.mem_flatMap.1 hp
    exact (nm_no (hX.2 x hx).2 p hp).1
  unfold evT pairsE
  rw [List.foldl_append, List.foldl_append, step_skip a1, step_skip a2]
  unfold fourP
  simp only [List.foldl_cons, List.foldl_nil]
  have s1 : stepT m 3 ⟨⟨#[98, 111, 111, 116]⟩, 1, b, ⟨#[]⟩⟩ = 3 := by
    unfold stepT; rw [hm, show ((⟨#[98, 111, 111, 116]⟩ : ByteArray).toList == sSer.toList) = false by decide +kernel]; rfl
  have s2 : ∀ r, stepT m r ⟨⟨#[116, 105, 109, 101]⟩, 1, t, ⟨#[]⟩⟩ = r := fun r => by
    unfold stepT; rw [hm, show ((⟨#[116, 105, 109, 101]⟩ : ByteArray).toList == sSer.toList) = false by decide +kernel]; rfl
  have s3 : ∀ r (v : Int), stepT m r ⟨⟨#[99, 111, 109, 112, 108, 101, 116, 101]⟩, 1, v, ⟨#[]⟩⟩ = r := fun r v => by
    unfold stepT; rw [hm, show ((⟨#[99, 111, 109, 112, 108, 101, 116, 101]⟩ : ByteArray).toList == sSer.toList) = false by decide +kernel]; rfl
  rw [s1, s2, s3]
  rfl
theorem sound_leaf {op cm kd nu : Int} {nm tx : ByteArray} (h : headX op cm kd nu nm tx 0 = true) : soundX (.mk op cm kd nu nm tx []) = true := by
  rw [soundX_eq, soundL]
  exact h
def serX (k m : Int) : Ex := .mk 4 k 1 m sSer ⟨#[]⟩ []
theorem ser_check (k m : Int) (hk : 1 ≤ k ∧ k ≤ 6) : checkX (serX k m) = 0 := by
  have e : k = 1 ∨ k = 2 ∨ k = 3 ∨ k = 4 ∨ k = 5 ∨ k = 6 := by omega
  unfold checkX serX
  rw [smallX_eq, if_neg (show ¬ ((24 : Int) - 1 < 0 ∨ (6 : Int) < 1) by decide), smallL, if_pos rfl]
  refine if_pos (sound_leaf ?_)
  unfold headX
  rw [if_neg (by decide), if_neg (by decide), if_pos rfl, show nam38 sSer = true by decide +kernel]
  unfold cmpsB
  rw [if_pos rfl, show (⟨#[]⟩ : ByteArray).toList.isEmpty = true by decide +kernel]
  rcases e with rfl | rfl | rfl | rfl | rfl | rfl <;> rfl
theorem ser_eval (k m : Int) (hk : 1 ≤ k ∧ k ≤ 6) (h : ByteArray) (b n t : Int) (c : Bool) (X : List Rm) (hX : XOk X) : evalE (serX k m) (pairsE h b n t c X) = if holdI k m n = true then 1 else 2 := by
  unfold evalE
  rw [if_pos (ser_check k m hk)]
  unfold serX
  rw [evX_eq]
  unfold evN
  rw [if_pos rfl, ser_fold _ rfl h b n t c X hX]
  unfold stepT holdsB
  have : ¬ k = 7 := by omega
  rw [if_neg (show ¬ k = 7 from this), if_neg (by decide : ¬ (1 : Int) = 2)]
  exact if_pos (show (sSer.toList == sSer.toList && (1 : Int) == 1 && (3 : Int) != 1) = true by decide +kernel)
def serT : Ex := .mk 4 1 2 0 sSer ⟨#[49]⟩ []
theorem serT_check : checkX serT = 0 := by
  unfold checkX serT
  rw [smallX_eq, if_neg (show ¬ ((24 : Int) - 1 < 0 ∨ (6 : Int) < 1) by decide), smallL, if_pos rfl]
  exact if_pos (sound_leaf (by decide +kernel))
theorem serT_eval (h : ByteArray) (b n t : Int) (c : Bool) (X : List Rm) (hX : XOk X) : evalE serT (pairsE h b n t c X) = 3 := by
  unfold evalE
  rw [if_pos serT_check]
  unfold serT
  rw [evX_eq]
  unfold evN
  rw [if_pos rfl, ser_fold _ rfl h b n t c X hX]
  unfold stepT
  exact if_neg (by
    show ¬ (sSer.toList == sSer.toList && (1 : Int) == 2 && (3 : Int) != 1) = true
    decide +kernel)
def hasH : Ex := .mk 5 0 0 0 sHost ⟨#[]⟩ []
theorem hasH_check : checkX hasH = 0 := by
  unfold checkX hasH
  rw [smallX_eq, if_neg (show ¬ ((24 : Int) - 1 < 0 ∨ (6 : Int) < 1) by decide), smallL, if_pos rfl]
  exact if_pos (sound_leaf (by decide +kernel))
theorem hasH_ev (ps : List Pr) : evalE hasH ps = if ps.any (fun p => p.nm.toList == sHost.toList) = true then 1 else 2 := by
  unfold evalE
  rw [if_pos hasH_check]
  unfold hasH
  rw [evX_eq]
  unfold evN
  rw [if_neg (by decide), if_pos rfl]
  rfl
theorem hasH_no (b n t : Int) (c : Bool) (X : List Rm) (hX : XOk X) : evalE hasH (pairsE ⟨#[]⟩ b n t c X) = 2 := by
  rw [hasH_ev, if_neg]
  intro h
  obtain ⟨p, hp, he⟩ := List.any_eq_true.1 h
  unfold pairsE at hp
  simp only [List.mem_append, List.mem_map, List.mem_flatMap] at hp
  rcases hp with ((hp | ⟨x, hx, rfl⟩) | hp) | ⟨x, hx, hp⟩
  · unfold hostP at hp
    rw [if_pos (by decide +kernel)] at hp
    cases hp
  · have : ((⟨#[116, 121, 112, 101]⟩ : ByteArray).toList == sHost.toList) = false := by decide +kernel
    exact Bool.false_ne_true (this.symm.trans he)
  · unfold fourP at hp
    simp only [List.mem_cons, List.not_mem_nil, or_false] at hp
    rcases hp with rfl | rfl | rfl | rfl
    · have : ((⟨#[98, 111, 111, 116]⟩ : ByteArray).toList == sHost.toList) = false := by decide +kernel
      exact Bool.false_ne_true (this.symm.trans he)
    · have : (sSer.toList == sHost.toList) = false := by decide +kernel
      exact Bool.false_ne_true (this.symm.trans he)
    · have : ((⟨#[116, 105, 109, 101]⟩ : ByteArray).toList == sHost.toList) = false := by decide +kernel
      exact Bool.false_ne_true (this.symm.trans he)
    · have : ((⟨#[99, 111, 109, 112, 108, 101, 116, 101]⟩ : ByteArray).toList == sHost.toList) = false := by decide +kernel
      exact Bool.false_ne_true (this.symm.trans he)
  · exact Bool.false_ne_true ((nm_no (hX.2 x hx).2 p hp).2.1.symm.trans he)
theorem hasH_yes (b n t : Int) (c : Bool) (X : List Rm) : evalE hasH (pairsE ⟨#[97]⟩ b n t c X) = 1 := by
  rw [hasH_ev, if_pos]
  refine List.any_eq_true.2 ⟨⟨sHost, 2, 0, ⟨#[97]⟩⟩, ?_, by simp⟩
  unfold pairsE hostP
  rw [if_neg (by decide +kernel)]
  simp [sHost]
/-- The mill's event in memory. -/
theorem ev_at {w : World} {base : Nat} {A : Option Addr} {cp : Nat} {X : List Rm} (h1 : OwnE ER w base (.slice A X.length cp) X) (h2 : ∀ x ∈ X, OwnE EP w base x.sl x.r.ps ∧ x.r.ps.length ≤ 11 ∧ nmsOk x.r.ps = true) (h3 : X.length ≤ 3) : EvAt w A X := by
  obtain ⟨A1, c1, e1, a1⟩ := h1.at
  injection e1 with e1 _ _
  subst e1
  refine ⟨a1, fun x hx => ?_, h3⟩
  obtain ⟨A2, c2, e2, a2⟩ := (h2 x hx).1.at
  injection e2 with e2 _ _
  subst e2
  exact ⟨a2, (h2 x hx).2.1⟩
end Go.Proofs.YtpldopoeopjcoaaGreatDoor
/- The sanity check of the laws about expressions: plain. -/
namespace Go.Proofs.YtpldopoeopjcoaaGreatDoor
open Go.RowKit
def bgL : ByteArray := ⟨#[97, 48, 61, 49, 32, 97, 110, 100, 32, 110, 111, 116, 32, 40, 104, 97, 115, 32, 98, 32, 111, 114, 32, 99, 126, 34, 120, 34, 41]⟩
def bg1 : Ex := .mk 4 1 1 1 ⟨#[97, 48]⟩ ⟨#[]⟩ []
def bg2 : Ex := .mk 5 0 0 0 ⟨#[98]⟩ ⟨#[]⟩ []
def bg3 : Ex := .mk 4 7 2 0 ⟨#[99]⟩ ⟨#[120]⟩ []
def bg4 : Ex := .mk 2 0 0 0 ⟨#[]⟩ ⟨#[]⟩ [bg2, bg3]
def bg5 : Ex := .mk 3 0 0 0 ⟨#[]⟩ ⟨#[]⟩ [bg4]
def bgX : Ex := .mk 1 0 0 0 ⟨#[]⟩ ⟨#[]⟩ [bg1, bg5]
theorem bg_parse : parseE bgL.data.toList = some bgX := begun_parse
theorem small_leaf (op cm kd nu : Int) (nm tx : ByteArray) (lv left : Int) (h : ¬ (left - 1 < 0 ∨ lv < 1)) : smallX (.mk op cm kd nu nm tx []) lv left = (true, left - 1) := by
  rw [smallX_eq, if_neg h, smallL]
theorem bg_check : checkX bgX = 0 := by
  have s1 : smallX bg1 5 23 = (true, 22) := small_leaf _ _ _ _ _ _ _ _ (by decide)
  have s2 : smallX bg2 3 20 = (true, 19) := small_leaf _ _ _ _ _ _ _ _ (by decide)
  have s3 : smallX bg3 3 19 = (true, 18) := small_leaf _ _ _ _ _ _ _ _ (by decide)
  have s4 : smallX bg4 4 21 = (true, 18) := by
    unfold bg4
    rw [smallX_eq, if_neg (by decide), smallL_cons, show smallX bg2 (4 - 1) (21 - 1) = (true, 19) from s2, if_pos rfl, smallL_cons, show smallX bg3 (4 - 1) 19 = (true, 18) from s3, if_pos rfl, smallL]
  have s5 : smallX bg5 5 22 = (true, 18) := by
    unfold bg5
    rw [smallX_eq, if_neg (by decide), smallL_cons, show smallX bg4 (5 - 1) (22 - 1) = (true, 18) from s4, if_pos rfl, smallL]
  have s : smallX bgX 6 24 = (true, 18) := by
    unfold bgX
    rw [smallX_eq, if_neg (by decide), smallL_cons, show smallX bg1 (6 - 1) (24 - 1) = (true, 22) from s1, if_pos rfl, smallL_cons, show smallX bg5 (6 - 1) 22 = (true, 18) from s5, if_pos rfl, smallL]
  have k1 : soundX bg1 = true := sound_leaf (by decide +kernel)
  have k2 : soundX bg2 = true := sound_leaf (by decide +kernel)
  have k3 : soundX bg3 = true := sound_leaf (by decide +kernel)
  have k4 : soundX bg4 = true := by
    unfold bg4
    rw [soundX_eq, soundL_cons, soundL_cons, k2, k3, soundL]
    decide +kernel
  have k5 : soundX bg5 = true := by
    unfold bg5
    rw [soundX_eq, soundL_cons, k4, soundL]
    decide +kernel
  have k : soundX bgX = true := by
    unfold bgX
    rw [soundX_eq, soundL_cons, soundL_cons, k1, k5, soundL]
    decide +kernel
  unfold checkX
  rw [s, k]
  rfl
def bgPs : List Pr := pairsE ⟨#[]⟩ 0 0 0 false [⟨⟨1005, 0, 0, [⟨⟨#[97, 48]⟩, 1, 1, ⟨#[]⟩⟩, ⟨⟨#[99]⟩, 2, 0, ⟨#[121]⟩⟩]⟩, none, 0⟩]
theorem bg_eval : evalE bgX bgPs = 1 := by
  unfold evalE
  rw [if_pos bg_check]
  unfold bgX bg5 bg4 bg1 bg2 bg3
  simp only [evX_eq, List.map_cons, List.map_nil]
  decide +kernel
theorem bg_text : fmtT bgX = bgL := by
  unfold bgX bg5 bg4 bg1 bg2 bg3
  simp only [fmtT_eq, kidT, List.map_cons, List.map_nil]
  decide +kernel
theorem bg_num : NumX bgX := by
  have l : ∀ op cm kd nu nm tx, I64 nu → NumX (.mk op cm kd nu nm tx []) := fun op cm kd nu nm tx h => NumX.mk op cm kd nu nm tx [] h (fun y hy => by cases hy)
  have z : I64 0 := ⟨by decide, by decide⟩
  refine NumX.mk _ _ _ _ _ _ _ z (fun y hy => ?_)
  rcases List.mem_cons.1 hy with rfl | hy
  · exact l _ _ _ _ _ _ ⟨by decide, by decide⟩
  · rw [List.mem_singleton.1 hy]
    refine NumX.mk _ _ _ _ _ _ _ z (fun y hy => ?_)
    rw [List.mem_singleton.1 hy]
    refine NumX.mk _ _ _ _ _ _ _ z (fun y hy => ?_)
    rcases List.mem_cons.1 hy with rfl | hy
    · exact l _ _ _ _ _ _ z
    · rw [List.mem_singleton.1 hy]
      exact l _ _ _ _ _ _ z
theorem bg_parseC : parseC bgL = some bgX := by
  unfold parseC
  rw [if_pos (by decide), bg_parse]
  exact if_pos bg_check
end Go.Proofs.YtpldopoeopjcoaaGreatDoor
/- The sanity check of the laws about expressions. -/
namespace Go.Proofs.YtpldopoeopjcoaaGreatDoor
open Go.RowKit
/-- What the laws about expressions read of the variables. -/
structure XGlob (w : World) : Prop where
  env : Env w
  tys : RTys w
theorem XGlob.below {w w' : World} (h : XGlob w) (hb : Below w.heap.size w w') : XGlob w' := ⟨h.env.below hb, h.tys.below hb⟩
theorem bg_form : formE bgX = bgL := (if_pos bg_check).trans bg_text
def bgP1 : Pr := ⟨⟨#[97, 48]⟩, 1, 1, ⟨#[]⟩⟩
def bgP2 : Pr := ⟨⟨#[99]⟩, 2, 0, ⟨#[121]⟩⟩
abbrev bgRow : Array Value := #[.string ⟨#[97, 48]⟩, .int .i64 1, .int .i64 1, .string ⟨#[]⟩, .string ⟨#[99]⟩, .int .i64 2, .int .i64 0, .string ⟨#[121]⟩]
abbrev bgRec (A : Option Addr) : Array Value := #[.int .i64 1005, .int .i64 0, .int .i64 0, .slice A 2 2]
theorem bg_pairs_eq (A : Option Addr) (c : Nat) : pairsE ⟨#[]⟩ 0 0 0 false [⟨⟨1005, 0, 0, [bgP1, bgP2]⟩, A, c⟩] = bgPs := rfl
theorem bg_ok (A : Option Addr) (c : Nat) : XOk [⟨⟨1005, 0, 0, [bgP1, bgP2]⟩, A, c⟩] := ⟨by show 1 ≤ 3; omega, fun x hx => by
  rw [List.mem_singleton.1 hx]
  exact ⟨by show 2 ≤ 11; omega, show nmsOk [bgP1, bgP2] = true by decide +kernel⟩⟩
theorem exa_op {w : World} {S : Nat → Prop} {m : Xe} (h : ExA w S bgX m) : m.op = 1 ∧ m.n = 2 := by
  unfold bgX at h
  cases h
  exact ⟨rfl, rfl⟩
theorem lvXx (a : Addr) (w : World) : (loadVar 23 a).run Tryz.prog w = (load a).run Tryz.prog w := by
  unfold loadVar
  simp [go_sem]
attribute [-go_sem] loadVar
attribute [local go_sem] lv3x lv9x lvXx
attribute [local irreducible] parseC evalE formE pairsE bgX
set_option maxRecDepth 100000 in
set_option maxHeartbeats 8000000 in
theorem vbegun (w : World) (hG : XGlob w) :
    Calls Tryz.prog 12 #[] w fun e w' => e = .returned (.bool true) ∧ Below w.heap.size w w' := by
  have HG := Lib.hid (fun (W : World) (h : Below w.heap.size w W) => hG.below h)
  have HP := Lib.hid (vParse38 bgL (by unfold maxLen; decide) w hG.env)
  clear hG
  go_enter Tryz.func12, Tryz.ntmps12
  go_wp2_with fail
  refine HP.out.mono ?_
  intro e w1 hp
  rw [bg_parseC] at hp
  obtain ⟨m, rfl, hx, hb1⟩ := hp
  have XA := Lib.hid hx
  have B1 := Lib.hid (hb1.alloc hb1.size (.cells (xC m) 25))
  have X1 := Lib.hid (Blk.new w1 (xC m) 25)
  have XV := Lib.hid (show ∀ W : World, Below (w1.alloc (.cells (xC m) 25)).heap.size (w1.alloc (.cells (xC m) 25)) W → ExV W W.heap.size bgX m from fun W h => (((hx.v (B := w1.heap.size) (fun i hi => hi.2)).keep (fun i hi => ((Below.refl w1.heap.size w1).alloc (Nat.le_refl _) (.cells (xC m) 25)).block i hi)).more (by simp)).keep (fun i hi => h.block i hi) |>.more h.size)
  have HOP := Lib.hid (exa_op hx)
  clear hx hb1 HP XA
  go_wp2_with fail
  generalize w1.alloc (.cells (xC m) 25) = w2 at *
  refine (mnum _ _ _).mono ?_
  rintro e w3 ⟨rfl, hb3⟩
  have B3 := Lib.hid (B1.out.trans (hb3.mono B1.out.size))
  have X3 := Lib.hid (X1.out.below hb3)
  go_wp2_with fail
  refine (mstr _ _ _).mono ?_
  rintro e w4 ⟨rfl, hb4⟩
  have B4 := Lib.hid (B3.out.trans (hb4.mono B3.out.size))
  have X4 := Lib.hid (X3.out.below hb4)
  have B24 := Lib.hid (hb3.trans (hb4.mono hb3.size))
  clear hb3 hb4 B3 X3
  have hs5 : (w4.alloc (.cells bgRow 58)).heap.size = w4.heap.size + 1 := by simp
  have hs6 : ((w4.alloc (.cells bgRow 58)).alloc (.cells (bgRec (some ⟨w4.heap.size, 0, none⟩)) 63)).heap.size = w4.heap.size + 1 + 1 := by simp
  have O1 := OwnE.made EP w4 bgRow [bgP1, bgP2] rfl (base := 0) (Nat.zero_le _) (by show 2 ≤ 1000; omega) (n := 2) rfl
  have O2 := OwnE.made ER (w4.alloc (.cells bgRow 58)) (bgRec (some ⟨w4.heap.size, 0, none⟩)) [⟨⟨1005, 0, 0, [bgP1, bgP2]⟩, some ⟨w4.heap.size, 0, none⟩, 2⟩] rfl (base := 0) (Nat.zero_le _) (by show 1 ≤ 1000; omega) (n := 1) rfl
  rw [hs5] at O2
  have EV := Lib.hid (show EvAt (((w4.alloc (.cells bgRow 58)).alloc (.cells (bgRec (some ⟨w4.heap.size, 0, none⟩)) 63)).alloc (.cells (evC 0 0 0 (.slice (some ⟨w4.heap.size + 1, 0, none⟩) 1 1) false) 39)) (some ⟨w4.heap.size + 1, 0, none⟩) [⟨⟨1005, 0, 0, [bgP1, bgP2]⟩, some ⟨w4.heap.size, 0, none⟩, 2⟩] from
    ev_at (base := 0) (cp := 1) (O2.alloc _) (fun x hx => by
      rw [List.mem_singleton.1 hx]
      exact ⟨(O1.alloc _).alloc _, by show 2 ≤ 11; omega, show nmsOk [bgP1, bgP2] = true by decide +kernel⟩) (by show 1 ≤ 3; omega))
  have X7 := Lib.hid (((X4.out.alloc (.cells bgRow 58)).alloc (.cells (bgRec (some ⟨w4.heap.size, 0, none⟩)) 63)).alloc (.cells (evC 0 0 0 (.slice (some ⟨w4.heap.size + 1, 0, none⟩) 1 1) false) 39))
  have E7 := Lib.hid (show Blk (((w4.alloc (.cells bgRow 58)).alloc (.cells (bgRec (some ⟨w4.heap.size, 0, none⟩)) 63)).alloc (.cells (evC 0 0 0 (.slice (some ⟨w4.heap.size + 1, 0, none⟩) 1 1) false) 39)) (w4.heap.size + 1 + 1) 39 (evC 0 0 0 (.slice (some ⟨w4.heap.size + 1, 0, none⟩) 1 1) false) by
    have h := Blk.new ((w4.alloc (.cells bgRow 58)).alloc (.cells (bgRec (some ⟨w4.heap.size, 0, none⟩)) 63)) (evC 0 0 0 (.slice (some ⟨w4.heap.size + 1, 0, none⟩) 1 1) false) 39
    rw [hs6] at h
    exact h)
  have hb5 : Below w4.heap.size w4 (((w4.alloc (.cells bgRow 58)).alloc (.cells (bgRec (some ⟨w4.heap.size, 0, none⟩)) 63)).alloc (.cells (evC 0 0 0 (.slice (some ⟨w4.heap.size + 1, 0, none⟩) 1 1) false) 39)) := (((Below.refl w4.heap.size w4).alloc (Nat.le_refl _) _).alloc (by rw [hs5]; omega) _).alloc (by rw [hs6]; omega) _
  have B7 := Lib.hid (B4.out.trans (hb5.mono B4.out.size))
  have B27 := Lib.hid (B24.out.trans (hb5.mono B24.out.size))
  clear hb5 O1 O2 hs5 hs6 B4 B24 X4
  have q0 := (X7.out.cell 0).trans (show (xC m)[0]? = some (.int .i64 1) by rw [show (xC m)[0]? = some (.int .i64 m.op) from rfl, HOP.out.1])
  have q6 := (X7.out.cell 6).trans (show (xC m)[6]? = some (.slice m.A 2 m.c) by rw [show (xC m)[6]? = some (.slice m.A m.n m.c) from rfl, HOP.out.2])
  have l1 := ld_x X7.out
  have l3 := ld_e E7.out
  go_wp2_with fail
  generalize ((w4.alloc (.cells bgRow 58)).alloc (.cells (bgRec (some ⟨w4.heap.size, 0, none⟩)) 63)).alloc (.cells (evC 0 0 0 (.slice (some ⟨w4.heap.size + 1, 0, none⟩) 1 1) false) 39) = w7 at *
  refine (vEval bgX m ⟨#[]⟩ 0 0 0 (some ⟨w4.heap.size + 1, 0, none⟩) 1 1 false [⟨⟨1005, 0, 0, [bgP1, bgP2]⟩, some ⟨w4.heap.size, 0, none⟩, 2⟩] rfl w7 (XV.out _ B27.out) EV.out (HG.out _ B7.out).tys (HG.out _ B7.out).env.mx (pairs_ok _ _ _ _ _ _ (bg_ok _ _) (by decide))).mono ?_
  rw [bg_pairs_eq, bg_eval]
  rintro e w8 ⟨rfl, hb8⟩
  have X8 := Lib.hid (X7.out.below hb8)
  have B8 := Lib.hid (B7.out.trans (hb8.mono B7.out.size))
  have B28 := Lib.hid (B27.out.trans (hb8.mono B27.out.size))
  clear hb8 q0 q6 X7 E7 EV B7 B27
  clear l1 l3
  have l1 := ld_x X8.out
  go_wp2_with fail
  refine (vFormat38 bgX m _ (XV.out _ B28.out) (fun _ => ⟨bg_num, by rw [bg_text]; decide⟩) (HG.out _ B8.out).env).mono ?_
  rw [bg_form]
  rintro e w9 ⟨rfl, hb9⟩
  have hbq : (bgL.toList == [97, 48, 61, 49, 32, 97, 110, 100, 32, 110, 111, 116, 32, 40, 104, 97, 115, 32, 98, 32, 111, 114, 32, 99, 126, 34, 120, 34, 41]) = true := by decide +kernel
  go_wp2_with fail
  go_ret
  exact ⟨rfl, B8.out.trans (hb9.mono B8.out.size)⟩
end Go.Proofs.YtpldopoeopjcoaaGreatDoor
/- The walk of the law ExpressionTests. -/
namespace Go.Proofs.YtpldopoeopjcoaaGreatDoor
open Go.RowKit
abbrev wantC (m n : Int) : Array Value := #[.bool (n == m), .bool (n != m), .bool (decide (n < m)), .bool (decide (n ≤ m)), .bool (decide (m < n)), .bool (decide (m ≤ n))]
theorem want_get (m n : Int) (k : Nat) (hk : k < 6) : (wantC m n)[k]? = some (.bool (holdI (1 + (k : Int)) m n)) := by
  have : k = 0 ∨ k = 1 ∨ k = 2 ∨ k = 3 ∨ k = 4 ∨ k = 5 := by omega
  rcases this with rfl | rfl | rfl | rfl | rfl | rfl <;> rfl
/-- What the loop of ExpressionTests keeps. -/
structure TsS (w wr : World) (ge gb : Nat) (n m : Int) (A : Option Addr) (cp : Nat) (c : Bool) (X : List Rm) : Prop where
  low : Below w.heap.size w wr
  ev : Blk wr ge 39 (evC 1 n 5 (.slice A X.length cp) c)
  wt : Blk wr gb 4 (wantC m n)
  at_ : EvAt wr A X
  gl : XGlob wr
theorem TsS.below {w wr w' : World} {ge gb : Nat} {n m : Int} {A : Option Addr} {cp : Nat} {c : Bool} {X : List Rm} (h : TsS w wr ge gb n m A cp c X) (hb : Below wr.heap.size wr w') : TsS w w' ge gb n m A cp c X :=
  ⟨below_then h.low hb, h.ev.below hb, h.wt.below hb, h.at_.below hb, h.gl.below hb⟩
theorem TsS.alloc {w wr : World} {ge gb : Nat} {n m : Int} {A : Option Addr} {cp : Nat} {c : Bool} {X : List Rm} (h : TsS w wr ge gb n m A cp c X) (o : Obj) : TsS w (wr.alloc o) ge gb n m A cp c X := h.below ((Below.refl _ _).alloc (Nat.le_refl _) o)
theorem leaf_v (w : World) (op cm kd nu : Int) (nm tx : ByteArray) (c : Nat) (hs : nm.size ≤ maxLen ∧ tx.size ≤ maxLen) : ExV w w.heap.size (.mk op cm kd nu nm tx []) ⟨op, cm, kd, nu, nm, tx, none, 0, c⟩ :=
  (ExA.leaf w (fun _ => False) op cm kd nu nm tx c hs).v (fun _ h => h.elim)
theorem lv4x (a : Addr) (w : World) : (loadVar 4 a).run Tryz.prog w = (load a).run Tryz.prog w := by
  unfold loadVar
  simp [go_sem]
attribute [-go_sem] loadVar
attribute [local go_sem] lv3x lv9x lvXx lv4x
attribute [local irreducible] evalE pairsE holdI
set_option maxRecDepth 100000 in
set_option maxHeartbeats 16000000 in
theorem expressionTests_walk (w : World) (A : Option Addr) (n0 c0 : Nat) (z m : Int) (hnc : n0 ≤ c0) (hcn : (c0 : Int) ≤ 9223372036854775807)
    (hl : ∀ k, k < n0 → ∃ (ad : Addr) (z : Int), A = some ad ∧ ad.block < w.heap.size ∧ w.cell? (ad.add k) = some (.int .u8 z) ∧ 0 ≤ z ∧ z ≤ 255) (hz0 : 0 ≤ z) (hz1 : z ≤ 255) (hG : XGlob w) :
    Calls Tryz.prog 5 #[.slice A n0 c0, .int .u8 z, .int .i64 m] w fun e w' => e = .returned (.bool true) ∧ Below w.heap.size w w' := by
  have HG := Lib.hid (fun (W : World) (h : Below w.heap.size w W) => hG.below h)
  have HN := Lib.hid (ca_new w A n0 c0 60 (by omega) hnc hcn hl)
  clear hG hl hnc hcn
  go_enter Tryz.func5, Tryz.ntmps5
  go_wp2_with fail
  refine HN.out.mono ?_
  rintro e w1 ⟨rfl, hca, hb1⟩
  have C1 := Lib.hid hca
  have B1 := Lib.hid hb1
  clear hca hb1 HN
  go_wp2_with fail
  refine (ca_event _ w.heap.size w.heap.size 1 (1 + z) 5 C1.out (by omega)).mono ?_
  rintro e w2 ⟨Ae, cp, c, X, rfl, ho, hps, hXl, hca, hg⟩
  have B2 := Lib.hid (below_only B1.out hg B1.out.size (Nat.le_refl _))
  have HXO := Lib.hid (show XOk X from ⟨hXl, fun x hx => (hps x hx).2⟩)
  have EV := Lib.hid (ev_at ho hps hXl)
  obtain ⟨en, hen⟩ : ∃ en : Int, en = 1 + z := ⟨_, rfl⟩
  rw [← hen] at *
  clear ho hps hXl hca hg C1 B1
  have E3 := Lib.hid (Blk.new w2 (evC 1 en 5 (.slice Ae X.length cp) c) 39)
  have q1 := E3.out.cell 1
  have K3 := Lib.hid (show TsS w ((w2.alloc (.cells (evC 1 en 5 (.slice Ae X.length cp) c) 39)).alloc (.cells (wantC m en) 4)) w2.heap.size (w2.heap.size + 1) en m Ae cp c X from by
    have hs : (w2.alloc (.cells (evC 1 en 5 (.slice Ae X.length cp) c) 39)).heap.size = w2.heap.size + 1 := by simp
    have hb : Below w2.heap.size w2 ((w2.alloc (.cells (evC 1 en 5 (.slice Ae X.length cp) c) 39)).alloc (.cells (wantC m en) 4)) := ((Below.refl w2.heap.size w2).alloc (Nat.le_refl _) _).alloc (by rw [hs]; omega) _
    have hw := Blk.new (w2.alloc (.cells (evC 1 en 5 (.slice Ae X.length cp) c) 39)) (wantC m en) 4
    rw [hs] at hw
    have hB := B2.out.trans (hb.mono B2.out.size)
    exact ⟨hB, E3.out.alloc _, hw, EV.out.below hb, HG.out _ hB⟩)
  clear B2 EV HG E3
  go_wp2_with fail
  clear q1
  generalize (w2.alloc (.cells (evC 1 en 5 (.slice Ae X.length cp) c) 39)).alloc (.cells (wantC m en) 4) = w3 at *
  generalize hgb : w2.heap.size + 1 = gb at *
  clear hgb
  generalize w2.heap.size = ge at *
  go_loopw [45] (fun i wr => ∃ k : Nat, k ≤ 6 ∧ i = .int .i64 (k : Int) ∧ TsS w wr ge gb en m Ae cp c X) (fun i _ => 6 - (intOf i).toNat)
  case atStart => exact ⟨0, Nat.zero_le _, rfl, K3.out⟩
  case round =>
    obtain ⟨k, hk, rfl, hK⟩ := hrel
    have K := Lib.hid hK
    clear hK K3
    by_cases hlt : k < 6
    · have hlt1 : (k : Int) < 6 := by omega
      have hcell : wr.cell? ⟨gb, k, none⟩ = some (.bool (holdI (1 + (k : Int)) m en)) := (K.out.wt.cell k).trans (want_get m en k hlt)
      have K1 := Lib.hid (K.out.alloc (.cells (xC ⟨4, 1 + (k : Int), 1, m, ⟨#[115, 101, 114, 105, 97, 108]⟩, ⟨#[]⟩, none, 0, 0⟩) 25))
      have l1 := ld_x (Blk.new wr (xC ⟨4, 1 + (k : Int), 1, m, ⟨#[115, 101, 114, 105, 97, 108]⟩, ⟨#[]⟩, none, 0, 0⟩) 25)
      have l3 := ld_e K1.out.ev
      have HV := Lib.hid (ser_eval (1 + (k : Int)) m (by omega) ⟨#[]⟩ 1 en 5 c X HXO.out)
      have HQ := Lib.hid (pairs_ok ⟨#[]⟩ 1 en 5 c X HXO.out (by decide))
      go_wp2_with fail
      clear l1 l3
      refine (vEval (serX (1 + (k : Int)) m) ⟨4, 1 + (k : Int), 1, m, ⟨#[115, 101, 114, 105, 97, 108]⟩, ⟨#[]⟩, none, 0, 0⟩ ⟨#[]⟩ 1 en 5 Ae X.length cp c X rfl _ (leaf_v _ _ _ _ _ _ _ _ (by unfold maxLen; decide)) K1.out.at_ K1.out.gl.tys K1.out.gl.env.mx HQ.out).mono ?_
      rw [HV.out]
      rintro e w4 ⟨rfl, hb4⟩
      have K4 := Lib.hid (K1.out.below hb4)
      clear hb4 K1 K hcell HV HQ
      generalize holdI (1 + (k : Int)) m en = b at *
      cases b
      all_goals
        simp only [Bool.false_eq_true, if_false, if_true]
        go_wp2_with fail
        go_roundw
        case rel => exact ⟨k + 1, by omega, by go_num, K4.out⟩
        case measure => simp [intOf]; omega
    · have hlt1 : ¬ (k : Int) < 6 := by omega
      have K1 := Lib.hid (K.out.alloc (.cells (xC ⟨4, 1, 2, 0, ⟨#[115, 101, 114, 105, 97, 108]⟩, ⟨#[49]⟩, none, 0, 0⟩) 25))
      have l1 := ld_x (Blk.new wr (xC ⟨4, 1, 2, 0, ⟨#[115, 101, 114, 105, 97, 108]⟩, ⟨#[49]⟩, none, 0, 0⟩) 25)
      have l3 := ld_e K1.out.ev
      clear K
      go_wp2_with fail
      clear l1 l3
      refine (vEval serT ⟨4, 1, 2, 0, ⟨#[115, 101, 114, 105, 97, 108]⟩, ⟨#[49]⟩, none, 0, 0⟩ ⟨#[]⟩ 1 en 5 Ae X.length cp c X rfl _ (leaf_v _ _ _ _ _ _ _ _ (by unfold maxLen; decide)) K1.out.at_ K1.out.gl.tys K1.out.gl.env.mx (pairs_ok ⟨#[]⟩ 1 en 5 c X HXO.out (by decide))).mono ?_
      rw [serT_eval _ _ _ _ _ _ HXO.out]
      rintro e w4 ⟨rfl, hb4⟩
      have K4 := Lib.hid (K1.out.below hb4)
      clear hb4 K1
      have l3 := ld_e K4.out.ev
      go_wp2_with fail
      clear l3
      refine (vEval hasH ⟨5, 0, 0, 0, ⟨#[104, 111, 115, 116]⟩, ⟨#[]⟩, none, 0, 0⟩ ⟨#[]⟩ 1 en 5 Ae X.length cp c X rfl _ (leaf_v _ _ _ _ _ _ _ _ (by unfold maxLen; decide)) K4.out.at_ K4.out.gl.tys K4.out.gl.env.mx (pairs_ok ⟨#[]⟩ 1 en 5 c X HXO.out (by decide))).mono ?_
      rw [hasH_no _ _ _ _ _ HXO.out]
      rintro e w5 ⟨rfl, hb5⟩
      have K5 := Lib.hid (K4.out.below hb5)
      clear hb5 K4
      have l3 := ld_e K5.out.ev
      go_wp2_with fail
      clear l3
      refine (vEval hasH ⟨5, 0, 0, 0, ⟨#[104, 111, 115, 116]⟩, ⟨#[]⟩, none, 0, 0⟩ ⟨#[97]⟩ 1 en 5 Ae X.length cp c X rfl _ (leaf_v _ _ _ _ _ _ _ _ (by unfold maxLen; decide)) K5.out.at_ K5.out.gl.tys K5.out.gl.env.mx (pairs_ok ⟨#[97]⟩ 1 en 5 c X HXO.out (by decide))).mono ?_
      rw [hasH_yes]
      rintro e w6 ⟨rfl, hb6⟩
      have K6 := Lib.hid (K5.out.below hb6)
      clear hb6 K5
      go_wp2_with fail
      refine (vbegun _ K6.out.gl).mono ?_
      rintro e w7 ⟨rfl, hb7⟩
      go_wp2_with fail
      go_ret
      exact ⟨rfl, below_then K6.out.low hb7⟩
end Go.Proofs.YtpldopoeopjcoaaGreatDoor

/- Texts of one proof, laid together. -/
import Derived.Test.YtbbihfafkpniiaaGreatDoorE501
import Derived.Test.YtbbihfafkpniiaaGreatDoorE502
import Derived.Test.YtbbihfafkpniiaaGreatDoorV02
import Derived.Test.YtbbihfafkpniiaaGreatDoorV03
/- The reference's reading of rules: read. -/
namespace Go.Proofs.YtbbihfafkpniiaaGreatDoor
open Go.RowKit
theorem fA_l : fA.toList = [45, 97] := by decide +kernel
theorem fK_l : fK.toList = [45, 107] := by decide +kernel
theorem fP_l : fP.toList = [45, 112] := by decide +kernel
theorem pre_le {s p : ByteArray} (h : Lib.hasPrefix s.data.toList p.data.toList = true) : p.size ≤ s.size := by
  by_cases hl : p.size ≤ s.size
  · exact hl
  · rw [pre_short hl] at h; cases h
theorem trim_ext {s p : ByteArray} (h : Lib.hasPrefix s.data.toList p.data.toList = true) : (⟨(Lib.trimPrefix s.data.toList p.data.toList).toArray⟩ : ByteArray) = s.extract p.size s.size := by
  unfold Lib.trimPrefix
  rw [if_pos h]
  refine bytes_ext ?_
  rw [ext1, ← bsz' p]
theorem rbg_perm (s : ByteArray) (hs : s.size ≤ 100000) (w : World) : Calls Tryz.prog 97 #[.string s, .string ⟨#[112, 101, 114, 109, 61]⟩] w fun e w' => e = .returned (.bool (Lib.hasPrefix s.data.toList permW.data.toList)) ∧ w = w' := rbegins s permW hs w
theorem rbg_path (s : ByteArray) (hs : s.size ≤ 100000) (w : World) : Calls Tryz.prog 97 #[.string s, .string ⟨#[112, 97, 116, 104, 61]⟩] w fun e w' => e = .returned (.bool (Lib.hasPrefix s.data.toList pathW.data.toList)) ∧ w = w' := rbegins s pathW hs w
theorem rbg_dir (s : ByteArray) (hs : s.size ≤ 100000) (w : World) : Calls Tryz.prog 97 #[.string s, .string ⟨#[100, 105, 114, 61]⟩] w fun e w' => e = .returned (.bool (Lib.hasPrefix s.data.toList dirW.data.toList)) ∧ w = w' := rbegins s dirW hs w
theorem permW_sz : permW.size = 5 := rfl
theorem pathW_sz : pathW.size = 5 := rfl
theorem dirW_sz : dirW.size = 4 := rfl
/-- The words of a text with two names. -/
theorem isW_two {c : UInt8} {a b : ByteArray} (ha : NoC c a) (hb : NoC c b) : IsW c (a ++ ⟨#[c]⟩ ++ b) [a, b] := by
  refine ⟨by simp, fun x hx => ?_, ?_⟩
  · rcases List.mem_cons.1 hx with rfl | hx
    · exact ha
    · rw [List.mem_singleton.1 hx]; exact hb
  · simp [joinL, Lib.joinTail]
theorem noc_list (k : Nat) (h : k < 6) : NoC 44 (listN k) := by
  have H : ∀ k : Fin 6, (listN k).data.toList.all (fun x => x != 44) = true := by decide +kernel
  intro x hx e
  have := List.all_eq_true.1 (H ⟨k, h⟩) x hx
  rw [e] at this; exact absurd this (by decide)
theorem head_two {r0 : Rul} (h : checkR r0 = 0) : IsW 44 (headW r0) [actN r0.ac.toNat, listN r0.li.toNat] := by
  have hz := checkR_zero h
  exact isW_two (noc_act _ (by rcases hz.ac with h | h <;> omega)) (noc_list _ (by have := hz.li; omega))
theorem read_a {r : Rul} {flag word p q : ByteArray} (hf : flag = fA) (hw : IsW 44 word [p, q]) : ReadR r flag word { r with ac := actF p, li := listF q } :=
  .ofA hf fun r0 hok e => by
    have hz := checkR_zero hok
    have h2 := head_two hok
    rw [← e] at h2
    have e3 := hw.unique h2
    injection e3 with e4 e5
    injection e5 with e6 _
    rw [e4, e6, actF_self hz.ac, listF_self hz.li]
theorem read_a_no {r : Rul} {flag word : ByteArray} {L : List ByteArray} (hf : flag = fA) (hw : IsW 44 word L) (hL : L.length ≠ 2) : ReadR r flag word r :=
  .ofA hf fun r0 hok e => by
    have h2 := head_two hok
    rw [← e] at h2
    rw [hw.unique h2] at hL
    exact absurd rfl hL
theorem read_s {r : Rul} {flag word : ByteArray} (hf : flag = fS) : ReadR r flag word { r with ca := (readM word).1 } :=
  .ofS hf fun m hm e => by rw [e, mask_back m hm]
theorem rd_same {r r' : Rul} {m : Nat} (h : RdR r m) (h1 : r'.ca = r.ca) (h2 : r'.pa = r.pa) (h3 : r'.ke = r.ke) (h4 : r'.ts = r.ts) : RdR r' (m + 1) := ⟨by rw [h1]; exact h.ca, by rw [h2]; exact h.pa, by rw [h3]; exact h.ke, by rw [h4]; exact h.ts, by rw [h4]; have := h.ln; omega⟩
theorem ridx_act (g : Nat) (s : ByteArray) (w : World) (hg : Glob w g cellsAc) : Calls Tryz.prog 94 #[.slice (some ⟨g, 0, none⟩) 3 3, .string s] w fun e w' => e = .returned (.int .i64 (actF s)) ∧ w = w' := rindexN actN 2 cellsAc (fun k hk => cellsAc_at hk) g s (by omega) w hg
theorem ridx_list (g : Nat) (s : ByteArray) (w : World) (hg : Glob w g cellsLi) : Calls Tryz.prog 94 #[.slice (some ⟨g, 0, none⟩) 6 6, .string s] w fun e w' => e = .returned (.int .i64 (listF s)) ∧ w = w' := rindexN listN 5 cellsLi (fun k hk => cellsLi_at hk) g s (by omega) w hg
theorem strs_own {w : World} {base : Nat} {ad : Addr} {c n : Nat} {L : List ByteArray} (h : OwnS w base (.slice (some ad) n c) L) : base ≤ ad.block := by
  rcases Joins.ownsRow_forms h.out with ⟨e, h0⟩ | ⟨g, cap, e⟩
  · injection e with e; cases e
  · injection e with e _ _
    injection e with e
    subst e
    exact (World.ownsRow.lt h.out g rfl).1
theorem cell_far {w : World} {g i : Nat} {v : Value} {a : Addr} {u : Value} (h : w.cell? a = some u) (hne : a.block ≠ g) : (w.setCell ⟨g, i, none⟩ v).cell? a = some u := (World.cell?_of_block (Below.heap_setCell w ⟨g, i, none⟩ v a.block hne)).trans h
attribute [local irreducible] unqS unqE quoteS permS permL checkR readM maskS actF listF pathW dirW permW Lib.hasPrefix Lib.trimPrefix fA fS fK fP fW fT fF fC headW
set_option maxRecDepth 100000 in
set_option maxHeartbeats 16000000 in
theorem rreadR (gr : Nat) (r : Rul) (tv : Value) (flag word : ByteArray) (hw : word.size ≤ 1000) (hl : r.ts.length ≤ 200000) (w : World) (h : QSt w w gr r tv) :
    Calls Tryz.prog 60 #[.pointer (some ⟨gr, 0, none⟩), .string flag, .string word] w (RReadPost gr r flag word w) := by
  have H := Lib.hid h
  clear h
  obtain ⟨tA, eA, pA, qA⟩ := lit_dec (x := flag) fA_l
  obtain ⟨tS, eS, pS, qS⟩ := lit_dec (x := flag) fS_l
  obtain ⟨tK, eK, pK, qK⟩ := lit_dec (x := flag) fK_l
  obtain ⟨tP, eP, pP, qP⟩ := lit_dec (x := flag) fP_l
  obtain ⟨tW, eW, pW, qW⟩ := lit_dec (x := flag) fW_l
  obtain ⟨tT, eT, pT, qT⟩ := lit_dec (x := flag) fT_l
  cases tA
  case true =>
    have HA := Lib.hid (pA rfl)
    clear pA qA pS qS pK qK pP qP pW qW pT qT eS eK eP eW eT
    go_enter Tryz.func60, Tryz.ntmps60
    go_wp2_with fail
    refine (rcut word 44 44 rfl _ (by omega)).mono ?_
    rintro e w1 ⟨v, L, rfl, hw1, ho, hb1⟩
    obtain ⟨A1, c1, ev, hS⟩ := ho.strs
    subst ev
    have ST := Lib.hid (H.out.below hb1)
    have HW := Lib.hid hw1
    have HST := Lib.hid hS
    have HO := Lib.hid ho
    clear hb1 hw1 hS ho
    by_cases hL : L.length = 2
    · obtain ⟨p, q, rfl⟩ : ∃ p q, L = [p, q] := by
        match L, hL with
        | [p, q], _ => exact ⟨p, q, rfl⟩
      have HR := Lib.hid (read_a (r := r) HA.out HW.out)
      obtain ⟨ad, rfl, hlt, hc0⟩ := HST.out 0 (by simp)
      obtain ⟨ad', e', hlt', hc1⟩ := HST.out 1 (by simp)
      injection e' with e'
      subst e'
      have hc0 : w1.cell? ad = some (.string p) := hc0
      have hc1 : w1.cell? ⟨ad.block, ad.off + 1, none⟩ = some (.string q) := hc1
      have hne : ad.block ≠ gr := by have := strs_own HO.out; have := H.out.x.lt; omega
      clear hL HST HW hlt' HO
      go_upto_region 5 with (fail)
      refine wp_region_held_drew (S := (fun w' => w'.cell? ad = some (.string p) ∧ w'.cell? ⟨ad.block, ad.off + 1, none⟩ = some (.string q))) (by kernel_rfl) ⟨hc0, hc1⟩ (fun hHeld => ?_)
      refine wpAnyH_take (i := 0) (v := ?_) rfl (by kernel_rfl) (by kernel_rfl) (by kernel_rfl) (fun _ _ _ h => h) (Or.inl ⟨by kernel_rfl, ?_⟩) hHeld ?_
      rotate_left
      · intro w hSw
        go_simp
        first | (with_reducible rfl) | (rw [if_neg (by first | omega | (simp; omega))])
      refine wpAnyH_take (i := 1) (v := ?_) rfl (by kernel_rfl) (by kernel_rfl) (by kernel_rfl) (fun _ _ _ h => h) (Or.inl ⟨by kernel_rfl, ?_⟩) hHeld ?_
      rotate_left
      · intro w hSw
        go_simp
        first | (with_reducible rfl) | (rw [if_neg (by first | omega | (simp; omega))])
      refine wpAnyH_take (i := 3) (v := ?_) rfl (by kernel_rfl) (by kernel_rfl) (by kernel_rfl) (fun _ _ _ h => h) (Or.inl ⟨by kernel_rfl, ?_⟩) hHeld ?_
      rotate_left
      · intro w hSw
        go_simp
        first | (with_reducible rfl) | (rw [if_neg (by first | omega | (simp; omega))])
      refine wpAnyH_take (i := 8) (v := ?_) rfl (by kernel_rfl) (by kernel_rfl) (by kernel_rfl) (fun _ _ _ h => h) (Or.inl ⟨by kernel_rfl, ?_⟩) hHeld ?_
      rotate_left
      · intro w hSw
        go_simp
        first | (with_reducible rfl) | (rw [if_neg (by first | omega | (simp; omega))])
      refine wpAnyH_take (i := 4) (v := ?_) rfl (by kernel_rfl) (by kernel_rfl) (by kernel_rfl) (fun _ _ _ h => h) (Or.inl ⟨by kernel_rfl, ?_⟩) hHeld ?_
      rotate_left
      · intro w hSw
        go_simp
        first | (with_reducible rfl) | (rw [if_neg (by first | omega | (simp; omega))])
      refine wpAnyH_take (i := 9) (v := ?_) rfl (by kernel_rfl) (by kernel_rfl) (by kernel_rfl) (fun _ _ _ h => h) (Or.inl ⟨by kernel_rfl, ?_⟩) hHeld ?_
      rotate_left
      · intro w hSw
        go_simp
        first | (with_reducible rfl) | (rw [if_neg (by first | omega | (simp; omega))])
      refine wpAnyH_take (i := 5) (v := ?_) rfl (by kernel_rfl) (by kernel_rfl) (by kernel_rfl) (fun _ _ _ h => h) (Or.inl ⟨by kernel_rfl, ?_⟩) hHeld ?_
      rotate_left
      · intro w hSw
        obtain ⟨k0, k1⟩ := hSw
        go_simp
        first | (with_reducible rfl) | (rw [if_neg (by first | omega | (simp; omega))])
      refine wpAnyH_take (i := 10) (v := ?_) rfl (by kernel_rfl) (by kernel_rfl) (by kernel_rfl) (fun _ _ _ h => h) (Or.inl ⟨by kernel_rfl, ?_⟩) hHeld ?_
      rotate_left
      · intro w hSw
        obtain ⟨k0, k1⟩ := hSw
        go_simp
        first | (with_reducible rfl) | (rw [if_neg (by first | omega | (simp; omega))])
      have ST := Lib.hid ST.out.drew
      have hlt : ad.block < w1.drew.heap.size := hlt
      refine wpAnyH_ready (rs := [2]) (by kernel_rfl) (by simp) ?_
      refine AllReadyH.cons rfl (fun K hK => ?_) AllReadyH.nil
      go_simp
      go_at_call 34
      refine (ractions _).mono ?_
      rintro e w2 ⟨rfl, hga, hb2⟩
      have STa := Lib.hid (ST.out.below hb2)
      have HGA := Lib.hid hga
      have hh2 : w2.cell? ad = some (.string p) ∧ w2.cell? ⟨ad.block, ad.off + 1, none⟩ = some (.string q) := ⟨(hb2.cell hlt).trans hHeld.1, (hb2.cell (by show ad.block < _; exact hlt)).trans hHeld.2⟩
      have hlt2 : ad.block < w2.heap.size := Nat.lt_of_lt_of_le hlt hb2.size
      clear hb2 hga
      go_simp
      refine hK.out _ _ hh2 (fun hHeld => ?_)
      clear hK K
      clear hh2 ST
      refine wpAnyH_ready (rs := [6]) (by kernel_rfl) (by simp) ?_
      refine AllReadyH.cons rfl (fun K hK => ?_) AllReadyH.nil
      go_simp
      go_at_call 94
      refine (ridx_act _ p _ HGA.out).mono ?_
      rintro e wl ⟨rfl, rfl⟩
      go_simp
      refine hK.out _ _ hHeld (fun hHeld => ?_)
      clear hK K
      refine wpAnyH_ready (rs := [7]) (by kernel_rfl) (by simp) ?_
      refine AllReadyH.cons rfl (fun K hK => ?_) AllReadyH.nil
      go_simp
      go_at_call 35
      refine (rlists _).mono ?_
      rintro e w3 ⟨rfl, hgl, hb3⟩
      have STb := Lib.hid (STa.out.below hb3)
      have HGB := Lib.hid hgl
      have hh3 : w3.cell? ad = some (.string p) ∧ w3.cell? ⟨ad.block, ad.off + 1, none⟩ = some (.string q) := ⟨(hb3.cell hlt2).trans hHeld.1, (hb3.cell (by show ad.block < _; exact hlt2)).trans hHeld.2⟩
      clear hb3 hgl
      go_simp
      refine hK.out _ _ hh3 (fun hHeld => ?_)
      clear hK K
      clear hh3 STa
      refine wpAnyH_ready (rs := [11]) (by kernel_rfl) (by simp) ?_
      refine AllReadyH.cons rfl (fun K hK => ?_) AllReadyH.nil
      go_simp
      go_at_call 94
      refine (ridx_list _ q _ HGB.out).mono ?_
      rintro e wl ⟨rfl, rfl⟩
      go_simp
      refine hK.out _ _ hHeld (fun hHeld => ?_)
      clear hK K
      have q1 := RulB.c1 STb.out.x
      have g1 := STb.out.x.free 1
      have STc := Lib.hid (STb.out.ac (actF p))
      refine wpAnyH_take (i := 12) (v := ?_) rfl (by kernel_rfl) (by kernel_rfl) (by kernel_rfl) (fun _ _ _ h => h) (Or.inl ⟨by kernel_rfl, ?_⟩) hHeld ?_
      rotate_left
      · intro w hSw
        go_simp
        first | (with_reducible rfl) | (rw [if_neg (by first | omega | (simp; omega))])
      refine wpAnyH_take (i := 13) (v := ?_) rfl (by kernel_rfl) (by kernel_rfl) (by kernel_rfl) (fun _ _ _ h => h) (Or.inl ⟨by kernel_rfl, ?_⟩) hHeld ?_
      rotate_left
      · intro w hSw
        go_simp
        first | (with_reducible rfl) | (rw [if_neg (by first | omega | (simp; omega))])
      have hh4 : (w3.setCell ⟨gr, 1, none⟩ (.int .i64 (actF p))).cell? ad = some (.string p) ∧ (w3.setCell ⟨gr, 1, none⟩ (.int .i64 (actF p))).cell? ⟨ad.block, ad.off + 1, none⟩ = some (.string q) := ⟨cell_far hHeld.1 hne, cell_far hHeld.2 hne⟩
      refine wpAnyH_ready (rs := [14]) (by kernel_rfl) (by simp) ?_
      refine AllReadyH.cons rfl (fun K hK => ?_) AllReadyH.nil
      go_simp
      refine hK.out _ _ hh4 (fun hHeld => ?_)
      clear hK K
      clear hh4 q1 g1
      have q0 := RulB.c0 STc.out.x
      have g0 := STc.out.x.free 0
      have STd := Lib.hid (STc.out.li (listF q))
      refine wpAnyH_take (i := 15) (v := ?_) rfl (by kernel_rfl) (by kernel_rfl) (by kernel_rfl) (fun _ _ _ h => h) (Or.inl ⟨by kernel_rfl, ?_⟩) hHeld ?_
      rotate_left
      · intro w hSw
        go_simp
        first | (with_reducible rfl) | (rw [if_neg (by first | omega | (simp; omega))])
      refine wpAnyH_take (i := 16) (v := ?_) rfl (by kernel_rfl) (by kernel_rfl) (by kernel_rfl) (fun _ _ _ h => h) (Or.inl ⟨by kernel_rfl, ?_⟩) hHeld ?_
      rotate_left
      · intro w hSw
        go_simp
        first | (with_reducible rfl) | (rw [if_neg (by first | omega | (simp; omega))])
      have hh5 : ((w3.setCell ⟨gr, 1, none⟩ (.int .i64 (actF p))).setCell ⟨gr, 0, none⟩ (.int .i64 (listF q))).cell? ad = some (.string p) ∧ ((w3.setCell ⟨gr, 1, none⟩ (.int .i64 (actF p))).setCell ⟨gr, 0, none⟩ (.int .i64 (listF q))).cell? ⟨ad.block, ad.off + 1, none⟩ = some (.string q) := ⟨cell_far hHeld.1 hne, cell_far hHeld.2 hne⟩
      refine wpAnyH_ready (rs := [17]) (by kernel_rfl) (by simp) ?_
      refine AllReadyH.cons rfl (fun K hK => ?_) AllReadyH.nil
      go_simp
      refine hK.out _ _ hh5 (fun hHeld => ?_)
      clear hK K
      clear hh5 q0 g0
      refine wpAnyH_done (by kernel_rfl) ?_ _
      go_wp2_with fail
      go_end0
      exact ⟨_, tv, rfl, STd.out, fun k hk => rd_same hk rfl rfl rfl rfl, HR.out⟩
    · have t1 : ((L.length : Int) == 2) = false := by simp; omega
      have HR := Lib.hid (read_a_no (r := r) HA.out HW.out hL)
      generalize L.length = n1 at *
      clear hL
      go_wp2_with fail
      go_end0
      exact ⟨r, tv, rfl, ST.out, fun m hm => hm.more (by omega), HR.out⟩
  cases tS
  case true =>
    have HR := Lib.hid (read_s (r := r) (word := word) (pS rfl))
    have hmlt := readM_lt word
    have HM := Lib.hid (fun W => rmparse word W hw)
    unfold MReadPost readV at HM
    clear pA qA pS qS pK qK pP qP pW qW pT qT eK eP eW eT
    generalize (readM word).1 = mc at *
    generalize (readM word).2 = me at *
    go_enter Tryz.func60, Tryz.ntmps60
    go_wp2_with fail
    refine (HM.out _).mono ?_
    rintro e w1 ⟨rfl, hb1⟩
    have ST := Lib.hid (H.out.below hb1)
    have c2 := RulB.c2 ST.out.x
    have f2 := ST.out.x.free 2
    clear hb1
    go_wp2_with fail
    go_end0
    exact ⟨_, tv, rfl, ST.out.ca mc, fun m hm => ⟨by show mc < _; omega, hm.pa, hm.ke, hm.ts, by have := hm.ln; show r.ts.length ≤ m + 1; omega⟩, HR.out⟩
  cases tK
  case true =>
    have HR := Lib.hid (ReadR.ofK (r := r) (word := word) (pK rfl))
    have HU := Lib.hid (unqS_sz word)
    clear pA qA pS qS pK qK pP qP pW qW pT qT eP eW eT
    go_enter Tryz.func60, Tryz.ntmps60
    go_wp2_with fail
    refine (runquote word _ (by omega)).mono ?_
    rintro e w1 ⟨rfl, hb1⟩
    have ST := Lib.hid (H.out.below hb1)
    have c7 := RulB.c7 ST.out.x
    have f7 := ST.out.x.free 7
    clear hb1
    go_wp2_with fail
    go_end0
    exact ⟨_, tv, rfl, ST.out.ke _, fun m hm => ⟨hm.ca, hm.pa, HU.out, hm.ts, by have := hm.ln; show r.ts.length ≤ m + 1; omega⟩, HR.out⟩
  have nP : (flag.toList != [45, 112]) = !tP := by simp only [bne]; rw [eP]
  cases tP
  case true =>
    have HF := Lib.hid (pP rfl)
    clear pA qA pS qS pK qK pP qP pW qW pT qT eW eT
    go_enter Tryz.func60, Tryz.ntmps60
    go_wp2_with fail
    refine (rperm word _).mono ?_
    rintro e w1 ⟨m, rfl, m0, m1, hm, rfl⟩
    have HR := Lib.hid (ReadR.ofP (r := r) (word := word) HF.out hm)
    have c6 := RulB.c6 H.out.x
    have f6 := H.out.x.free 6
    clear hm
    go_wp2_with fail
    go_end0
    exact ⟨_, tv, rfl, H.out.pe m, fun k hk => rd_same hk rfl rfl rfl rfl, HR.out⟩
  have HNF := Lib.hid (show NoFl flag from ⟨qA rfl, qS rfl, qK rfl, qP rfl⟩)
  clear pA qA pS qS pK qK pP qP
  cases e3 : Lib.hasPrefix word.data.toList permW.data.toList
  case true =>
    have hle := pre_le e3
    rw [permW_sz] at hle
    have hI : (5 : Int) ≤ (word.size : Int) := by omega
    have hX := trim_ext e3
    rw [permW_sz] at hX
    have HX := Lib.hid hX
    have HP := Lib.hid (fun m hc => ReadR.ofPerm (r := r) (m := m) HNF.out e3 hc)
    rw [hX] at HP
    clear pW qW pT qT eW eT hX
    go_enter Tryz.func60, Tryz.ntmps60
    go_wp2_with fail
    refine (rbg_perm word (by omega) _).mono ?_
    rintro e w1 ⟨rfl, rfl⟩
    rw [e3]
    go_wp2_with fail
    refine (rperm _ _).mono ?_
    rintro e w1 ⟨m, rfl, m0, m1, hm, rfl⟩
    have HR := Lib.hid (HP.out m hm)
    have c6 := RulB.c6 H.out.x
    have f6 := H.out.x.free 6
    clear hm
    go_wp2_with fail
    go_end0
    exact ⟨_, tv, rfl, H.out.pe m, fun k hk => rd_same hk rfl rfl rfl rfl, HR.out⟩
  have c0 := RulB.c0 H.out.x
  have c1 := RulB.c1 H.out.x
  have c2 := RulB.c2 H.out.x
  have c4 := RulB.c4 H.out.x
  have f0 := H.out.x.free 0
  have f1 := H.out.x.free 1
  have f2 := H.out.x.free 2
  have f4 := H.out.x.free 4
  cases tW
  case true =>
    cases tT
    case true => exact absurd ((pW rfl).symm.trans (pT rfl)) (by decide +kernel)
    have HR := Lib.hid (ReadR.ofW (r := r) (word := word) (pW rfl))
    have HU := Lib.hid (unqS_sz word)
    have ST1 := Lib.hid ((((H.out.li 3).ac 1).ca allCalls).wa 1)
    clear pW qW pT qT
    go_enter Tryz.func60, Tryz.ntmps60
    go_wp2_with fail
    refine (rbg_perm word (by omega) _).mono ?_
    rintro e w1 ⟨rfl, rfl⟩
    rw [e3]
    clear e3
    go_wp2_with fail
    refine (runquote word _ (by omega)).mono ?_
    rintro e w1 ⟨rfl, hb1⟩
    have ST := Lib.hid (ST1.out.below hb1)
    have c5 := RulB.c5 ST.out.x
    have f5 := ST.out.x.free 5
    clear hb1
    go_wp2_with fail
    go_end0
    exact ⟨_, tv, rfl, ST.out.pa _, fun m hm => ⟨by show allCalls < _; decide, HU.out, hm.ke, hm.ts, by have := hm.ln; show r.ts.length ≤ m + 1; omega⟩, HR.out⟩
  cases tT
  case true =>
    have HR := Lib.hid (ReadR.ofT (r := r) (word := word) (pT rfl))
    have HU := Lib.hid (unqS_sz word)
    have ST1 := Lib.hid ((((H.out.li 3).ac 1).ca allCalls).wa 1)
    have c4' := RulB.c4 ST1.out.x
    have f4' := ST1.out.x.free 4
    have ST2 := Lib.hid (ST1.out.wa 2)
    clear pW qW pT qT
    go_enter Tryz.func60, Tryz.ntmps60
    go_wp2_with fail
    refine (rbg_perm word (by omega) _).mono ?_
    rintro e w1 ⟨rfl, rfl⟩
    rw [e3]
    clear e3
    go_wp2_with fail
    refine (runquote word _ (by omega)).mono ?_
    rintro e w1 ⟨rfl, hb1⟩
    have ST := Lib.hid (ST2.out.below hb1)
    have c5 := RulB.c5 ST.out.x
    have f5 := ST.out.x.free 5
    clear hb1
    go_wp2_with fail
    go_end0
    exact ⟨_, tv, rfl, ST.out.pa _, fun m hm => ⟨by show allCalls < _; decide, HU.out, hm.ke, hm.ts, by have := hm.ln; show r.ts.length ≤ m + 1; omega⟩, HR.out⟩
  have HNW := Lib.hid (And.intro (qW rfl) (qT rfl))
  clear pW qW pT qT c0 c1 c2 f0 f1 f2
  cases e1 : Lib.hasPrefix word.data.toList pathW.data.toList
  case true =>
    have hle := pre_le e1
    rw [pathW_sz] at hle
    have hI : (5 : Int) ≤ (word.size : Int) := by omega
    have hX := trim_ext e1
    rw [pathW_sz] at hX
    have HR := Lib.hid (ReadR.ofF HNF.out HNW.out.1 HNW.out.2 (fun p hp e => (put_path (r := r) (b := false) (b' := false) e1 (fun _ => rfl) p hp e).1))
    rw [hX] at HR
    have HU := Lib.hid (unqS_sz (word.extract 5 word.size))
    have ST1 := Lib.hid (H.out.wa 1)
    clear hX
    go_enter Tryz.func60, Tryz.ntmps60
    go_wp2_with fail
    refine (rbg_perm word (by omega) _).mono ?_
    rintro e w1 ⟨rfl, rfl⟩
    rw [e3]
    clear e3
    go_wp2_with fail
    refine (rbg_path word (by omega) _).mono ?_
    rintro e w1 ⟨rfl, rfl⟩
    rw [e1]
    clear e1
    go_wp2_with fail
    refine (runquote _ _ (by rw [ByteArray.size_extract]; omega)).mono ?_
    rintro e w1 ⟨rfl, hb1⟩
    have ST := Lib.hid (ST1.out.below hb1)
    have c5 := RulB.c5 ST.out.x
    have f5 := ST.out.x.free 5
    clear hb1
    go_wp2_with fail
    go_end0
    exact ⟨_, tv, rfl, ST.out.pa _, fun m hm => ⟨hm.ca, HU.out, hm.ke, hm.ts, by have := hm.ln; show r.ts.length ≤ m + 1; omega⟩, HR.out⟩
  cases e2 : Lib.hasPrefix word.data.toList dirW.data.toList
  case true =>
    have hle := pre_le e2
    rw [dirW_sz] at hle
    have hI : (4 : Int) ≤ (word.size : Int) := by omega
    have hX := trim_ext e2
    rw [dirW_sz] at hX
    have HR := Lib.hid (ReadR.ofF HNF.out HNW.out.1 HNW.out.2 (fun p hp e => (put_dir (r := r) (b := false) (b' := false) e2 (fun _ => rfl) p hp e).1))
    rw [hX] at HR
    have HU := Lib.hid (unqS_sz (word.extract 4 word.size))
    have ST1 := Lib.hid (H.out.wa 2)
    clear hX
    go_enter Tryz.func60, Tryz.ntmps60
    go_wp2_with fail
    refine (rbg_perm word (by omega) _).mono ?_
    rintro e w1 ⟨rfl, rfl⟩
    rw [e3]
    clear e3
    go_wp2_with fail
    refine (rbg_path word (by omega) _).mono ?_
    rintro e w1 ⟨rfl, rfl⟩
    rw [e1]
    clear e1
    go_wp2_with fail
    refine (rbg_dir word (by omega) _).mono ?_
    rintro e w1 ⟨rfl, rfl⟩
    rw [e2]
    clear e2
    go_wp2_with fail
    refine (runquote _ _ (by rw [ByteArray.size_extract]; omega)).mono ?_
    rintro e w1 ⟨rfl, hb1⟩
    have ST := Lib.hid (ST1.out.below hb1)
    have c5 := RulB.c5 ST.out.x
    have f5 := ST.out.x.free 5
    clear hb1
    go_wp2_with fail
    go_end0
    exact ⟨_, tv, rfl, ST.out.pa _, fun m hm => ⟨hm.ca, HU.out, hm.ke, hm.ts, by have := hm.ln; show r.ts.length ≤ m + 1; omega⟩, HR.out⟩
  have HT := Lib.hid (fun (fd op nu : Int) (tx : ByteArray) (ot er : Int) (ht : TIs word fd op nu tx ot er) => ReadR.ofF (r := r) (r' := { r with ts := r.ts ++ [⟨fd, op, nu, tx, ot⟩] }) HNF.out HNW.out.1 HNW.out.2 (fun p hp e => by
    by_cases he : er = 0
    · subst he; exact put_tst (r := r) e1 e2 e3 ht p hp e
    · exact (put_none e1 e2 e3 ht he p hp e).elim))
  clear c4 f4 HNF HNW
  go_enter Tryz.func60, Tryz.ntmps60
  go_wp2_with fail
  refine (rbg_perm word (by omega) _).mono ?_
  rintro e w1 ⟨rfl, rfl⟩
  rw [e3]
  clear e3
  go_wp2_with fail
  refine (rbg_path word (by omega) _).mono ?_
  rintro e w1 ⟨rfl, rfl⟩
  rw [e1]
  clear e1
  go_wp2_with fail
  refine (rbg_dir word (by omega) _).mono ?_
  rintro e w1 ⟨rfl, rfl⟩
  rw [e2]
  clear e2
  go_wp2_with fail
  refine (rparseF word (by omega) _).mono ?_
  rintro e w2 ⟨fd, op, nu, tx, ot, er, rfl, hti, htx, hnu, hb2⟩
  have ST := Lib.hid ((H.out.below hb2).alloc (.cells (testC fd op nu tx ot) 40))
  have HR := Lib.hid (HT.out fd op nu tx ot er hti)
  have HNX := Lib.hid (show I64 (Tst.mk fd op nu tx ot).nu ∧ (Tst.mk fd op nu tx ot).tx.size ≤ 640 from ⟨hnu, htx⟩)
  have HQ := Lib.hid (Blk.new w2 (testC fd op nu tx ot) 40)
  clear hb2 hti htx hnu
  have qA := RulB.c3 ST.out.x
  have hgc := ST.out.x.lt
  have HLB := Lib.hid hl
  have hp0 : (⟨w2.heap.size, 0, none⟩ : Addr).block < (w2.alloc (.cells (testC fd op nu tx ot) 40)).drew.heap.size := by simp
  go_upto_region 1 with (fail)
  generalize w2.alloc (.cells (testC fd op nu tx ot) 40) = W0 at *
  have d0 : W0.cell? ⟨w2.heap.size, 0, none⟩ = some (.int .i64 fd) := HQ.out.cell 0
  have d1 : W0.cell? ⟨w2.heap.size, 1, none⟩ = some (.int .i64 op) := HQ.out.cell 1
  have d2 : W0.cell? ⟨w2.heap.size, 2, none⟩ = some (.int .i64 nu) := HQ.out.cell 2
  have d3 : W0.cell? ⟨w2.heap.size, 3, none⟩ = some (.string tx) := HQ.out.cell 3
  have d4 : W0.cell? ⟨w2.heap.size, 4, none⟩ = some (.int .i64 ot) := HQ.out.cell 4
  have st3 := ST.out.drew
  have qC := RulB.c3 (ST.out.alloc (.cells (testC fd op nu tx ot) 40)).x
  go_region_law
    (first
      | (refine step_append_tst (by rfl) (.tmp 18) (.tmp 20) (by rfl) (gr + 1) tv r.ts (by rfl) (by exact (st3.alloc _).own) ⟨W0.heap.size, 0, none⟩ ⟨fd, op, nu, tx, ot⟩ (by rfl) (by exact row_newT W0.drew (testC fd op nu tx ot) 40) (by omega) (by simp; omega) ?_; intro v4 w4 own4 hg4 hat4; obtain ⟨g4, c4, hv4⟩ := Joins.ownsRow_form own4 (by simp); subst hv4; obtain ⟨cb4, st4⟩ := (st3.alloc (.cells (testC fd op nu tx ot) 40)).app ⟨fd, op, nu, tx, ot⟩ hg4 own4; have qB := RulB.c3 cb4; have fB := cb4.free 3))
  all_goals
    simp only [List.length_append, List.length_cons, List.length_nil, Nat.zero_add] at st4
    have ST4 := Lib.hid st4
    clear qA qB qC fB cb4 own4 st3 st4 hg4 hat4
    go_wp2_with fail
    go_end0
    exact ⟨_, _, rfl, ST4.out, fun m hm => hm.app HNX.out, HR.out⟩
end Go.Proofs.YtbbihfafkpniiaaGreatDoor

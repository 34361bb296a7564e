/- Texts of one proof, laid together. -/
import Derived.Test.YtbbihfafkpniiaaGreatDoorV01
import Derived.Test.YtbbihfafkpniiaaGreatDoorV02
import Derived.Test.YtbbihfafkpniiaaGreatDoorC15
import Derived.Test.YtbbihfafkpniiaaGreatDoorC26
/- The reader of the program's Parse: rule. -/
namespace Go.Proofs.YtbbihfafkpniiaaGreatDoor
open Go.RowKit
theorem cut_uni {c : UInt8} : ∀ {a a' b b' : List UInt8}, (∀ x ∈ a, x ≠ c) → (∀ x ∈ a', x ≠ c) → a ++ c :: b = a' ++ c :: b' → a = a' ∧ b = b'
  | [], [], _, _, _, _, h => ⟨rfl, by injection h⟩
  | [], x :: a', _, _, _, h2, h => by
    injection h with h _
    exact absurd h.symm (h2 x List.mem_cons_self)
  | x :: a, [], _, _, h1, _, h => by
    injection h with h _
    exact absurd h (h1 x List.mem_cons_self)
  | x :: a, y :: a', b, b', h1, h2, h => by
    injection h with e h
    obtain ⟨e1, e2⟩ := cut_uni (fun z hz => h1 z (List.mem_cons_of_mem _ hz)) (fun z hz => h2 z (List.mem_cons_of_mem _ hz)) h
    exact ⟨by rw [e, e1], e2⟩
/-- What Cut leaves of two names with a comma between. -/
theorem cut_two {s : ByteArray} {w w' : World} {e : Ending} (h : CutP 44 s w e w') : Below w.heap.size w w' ∧ ∃ (a l : ByteArray) (t : Bool), e = .returned (.tuple #[.string a, .string l, .bool t]) ∧ ∀ p q : ByteArray, NoC 44 p → s = p ++ ⟨#[44]⟩ ++ q → a = p ∧ l = q := by
  obtain ⟨hb, h⟩ := h
  refine ⟨hb, ?_⟩
  rcases h with ⟨h1, rfl⟩ | ⟨i, hi, h1, h2, rfl⟩
  · refine ⟨_, _, _, rfl, fun p q _ e => ?_⟩
    have : (44 : UInt8) ∈ s.data.toList := by rw [e]; simp
    exact absurd rfl (h1 44 this)
  · refine ⟨_, _, _, rfl, fun p q hp e => ?_⟩
    have e2 : s.data.toList = p.data.toList ++ 44 :: q.data.toList := by rw [e]; simp
    obtain ⟨e3, e4⟩ := cut_uni h2 hp (h1.symm.trans e2)
    exact ⟨bytes_ext (by rw [ext0, e3]), bytes_ext (by rw [ext1, e4])⟩
theorem noc_act (k : Nat) (h : k < 3) : NoC 44 (actN k) := by
  have H : ∀ k : Fin 3, (actN k).data.toList.all (fun x => x != 44) = true := by decide +kernel
  intro x hx e
  have := List.all_eq_true.1 (H ⟨k, h⟩) x hx
  rw [e] at this; exact absurd this (by decide)
/-- The first two words. -/
structure HeadE (ws : List ByteArray) (n : Nat) (b1 b2 : Bool) (k1 k2 : Nat) (x1 : ByteArray) (ac li : Int) : Prop where
  len : n = ws.length
  e1 : ws[0]? = some fA → b1 = false
  hk1 : nextK n 0 = k1
  e2 : k1 < n → b2 = b1
  hx1 : wordAt ws k1 = x1
  hk2 : nextK n k1 = k2
  aa : ∀ r0, checkR r0 = 0 → x1 = headW r0 → ac = r0.ac ∧ li = r0.li
section
variable {ws : List ByteArray} {n k1 k2 k3 k4 : Nat} {b1 b2 b3 b4 b5 : Bool} {x1 x3 : ByteArray} {ac li : Int}
theorem HeadE.get (h : HeadE ws n b1 b2 k1 k2 x1 ac li) {r0 : Rul} (hok : checkR r0 = 0) (e : ws = wordsR r0) : k2 = 2 ∧ b2 = false ∧ ac = r0.ac ∧ li = r0.li := by
  obtain ⟨q0, q1, _⟩ := words_head hok
  rw [← e] at q0 q1
  obtain ⟨y1, y2⟩ := wordAt_some q1
  have hl := h.len
  have a1 : k1 = 1 := by rw [← h.hk1]; exact nextK_in (by omega)
  have a2 : k2 = 2 := by rw [← h.hk2, a1]; exact nextK_in (by omega)
  have hx : x1 = headW r0 := by rw [← h.hx1, a1]; exact y1
  obtain ⟨z1, z2⟩ := h.aa r0 hok hx
  exact ⟨a2, by rw [h.e2 (by omega), h.e1 q0], z1, z2⟩
theorem rule_no (h : HeadE ws n b1 b2 k1 k2 x1 ac li) (hne : wordAt ws k2 ≠ fS) : ∀ r0, GoodR r0 → ws = wordsR r0 → b2 = false ∧ PathAt r0 k2 { zeroR with ac := ac, li := li } := fun r0 hg e => by
  obtain ⟨rfl, z1, rfl, rfl⟩ := h.get hg.ok e
  refine ⟨z1, ?_⟩
  obtain ⟨_, _, q2⟩ := words_head hg.ok
  rw [← e] at q2
  rcases q2 with ⟨_, _, h2, _⟩ | ⟨_, ha, hca, _⟩
  · exact absurd (wordAt_some h2).1 hne
  · have := PathAt.start r0
    rw [ha] at this
    have e4 : baseR r0 = { zeroR with ac := r0.ac, li := r0.li } := by unfold baseR; rw [hca]; rfl
    rw [e4] at this
    exact this
theorem rule_yes (h : HeadE ws n b1 b2 k1 k2 x1 ac li) (he : wordAt ws k2 = fS) (e3 : k2 < n → b3 = b2) (hk3 : nextK n k2 = k3) (e4 : k3 < n → b4 = b3) (hk4 : nextK n k3 = k4) (hx3 : wordAt ws k3 = x3) (e5 : (readM x3).2 = 0 → b5 = b4) :
    ∀ r0, GoodR r0 → ws = wordsR r0 → b5 = false ∧ PathAt r0 k4 { zeroR with ac := ac, li := li, ca := (readM x3).1 } := fun r0 hg e => by
  obtain ⟨rfl, z1, rfl, rfl⟩ := h.get hg.ok e
  obtain ⟨_, _, q2⟩ := words_head hg.ok
  rw [← e] at q2
  have hl := h.len
  rcases q2 with ⟨_, ha, h2, h3, hca⟩ | ⟨_, ha, hca, hn⟩
  · obtain ⟨y1, y2⟩ := wordAt_some h3
    have a3 : k3 = 3 := by rw [← hk3]; exact nextK_in (by omega)
    have a4 : k4 = 4 := by rw [← hk4, a3]; exact nextK_in (by omega)
    have hx : x3 = maskS r0.ca := by rw [← hx3, a3]; exact y1
    have hm := mask_back r0.ca hca
    rw [← hx] at hm
    refine ⟨by rw [e5 (by rw [hm]), e4 (by omega), e3 (by omega), z1], ?_⟩
    rw [hm, a4, ← ha]
    exact PathAt.start r0
  · exfalso
    by_cases hlt : 2 < ws.length
    · rw [wordAt_in hlt] at he
      exact hn _ (List.getElem?_eq_getElem hlt) he
    · rw [wordAt_end (by omega)] at he
      exact absurd he (by decide)
end
theorem PathAt.part {r0 r : Rul} {k : Nat} {f : ByteArray} (h : PathAt r0 k r) (hg : GoodR r0) (hf : (wordsR r0)[k]? = some f) (hff : f = fF ∨ f = fC) : ∃ p : Part, p.ok ∧ (wordsR r0)[k + 1]? = some p.txt := by
  obtain ⟨i, hi, rfl, hr⟩ := h.ex
  by_cases hlt : i < (partsR r0).length
  · obtain ⟨h1, h2⟩ := word_part r0 i hlt
    exact ⟨_, parts_ok hg _ (List.getElem_mem hlt), h2⟩
  · have hi' : i = (partsR r0).length := by omega
    subst hi'
    have := word_key r0 0
    rw [Nat.add_zero, hf] at this
    unfold keyW at this
    split at this
    · cases this
    · have e : f = fK := Option.some.inj this
      rcases hff with rfl | rfl
      · exact absurd e (by decide)
      · exact absurd e (by decide)
/-- What rule keeps: the block of the result beside what part keeps. -/
structure RuSt (w wr : World) (g : Nat) (A : Option Addr) (n c : Nat) (ws : List ByteArray) (k : Nat) (b : Bool) (r : Rul) (tv : Value) : Prop where
  p : PaT w wr w.heap.size g (w.heap.size + 1) A n c ws k b r tv
  z : RulB wr w.heap.size zeroR noT
  lt : g < w.heap.size
section
variable {w wr w' : World} {g n c k k' : Nat} {A : Option Addr} {ws : List ByteArray} {b b' : Bool} {r r' : Rul} {tv tv' : Value}
theorem RuSt.step (h : RuSt w wr g A n c ws k b r tv) (hr : RdS w' g A n c ws k' b') (ho : OnlyR g wr w') : RuSt w w' g A n c ws k' b' r tv := ⟨h.p.step hr ho, Blk.onlyR h.z ho (by have := h.lt; omega), h.lt⟩
theorem RuSt.below (h : RuSt w wr g A n c ws k b r tv) (hb : Below wr.heap.size wr w') : RuSt w w' g A n c ws k b r tv := h.step (h.p.rd.below hb) (OnlyR.of hb)
theorem RuSt.drewN (h : RuSt w wr g A n c ws k b r tv) (m : Nat) : RuSt w (wr.drewN m) g A n c ws k b r tv := h.below (below_drewN (Below.refl _ _) m)
theorem RuSt.li (h : RuSt w wr g A n c ws k b r tv) (v : Int) : RuSt w (wr.setCell ⟨w.heap.size + 1, 0, none⟩ (.int .i64 v)) g A n c ws k b { r with li := v } tv := ⟨h.p.li v, Blk.put_other h.z _ (by show w.heap.size ≠ w.heap.size + 1; omega), h.lt⟩
theorem RuSt.ac (h : RuSt w wr g A n c ws k b r tv) (v : Int) : RuSt w (wr.setCell ⟨w.heap.size + 1, 1, none⟩ (.int .i64 v)) g A n c ws k b { r with ac := v } tv := ⟨h.p.ac v, Blk.put_other h.z _ (by show w.heap.size ≠ w.heap.size + 1; omega), h.lt⟩
theorem RuSt.ca (h : RuSt w wr g A n c ws k b r tv) (v : Nat) : RuSt w (wr.setCell ⟨w.heap.size + 1, 2, none⟩ (.int .u64 (v : Int))) g A n c ws k b { r with ca := v } tv := ⟨h.p.ca v, Blk.put_other h.z _ (by show w.heap.size ≠ w.heap.size + 1; omega), h.lt⟩
theorem RuSt.ke (h : RuSt w wr g A n c ws k b r tv) (v : ByteArray) : RuSt w (wr.setCell ⟨w.heap.size + 1, 7, none⟩ (.string v)) g A n c ws k b { r with ke := v } tv := ⟨h.p.ke v, Blk.put_other h.z _ (by show w.heap.size ≠ w.heap.size + 1; omega), h.lt⟩
theorem RuSt.then (h : RuSt w wr g A n c ws k b r tv) (q : PaT wr w' (w.heap.size + 1) g (w.heap.size + 1) A n c ws k' b' r' tv') : RuSt w w' g A n c ws k' b' r' tv' := ⟨h.p.then q, (q.only.block _ (by omega) (by have := h.lt; omega)).trans h.z, h.lt⟩
theorem RuSt.glob {w0 : World} (h : RuSt w wr g A n c ws k b r tv) (hG : Gl w0 g w) : Gl w0 g wr := hG.onlyG h.p.only (by have := hG.le; have := h.lt; omega)
theorem ru_start (hl : g < w.heap.size) (h : RdS w g A n c ws k b) : RuSt w ((w.alloc (.cells (rulC zeroR noT) 26)).alloc (.cells (rulC zeroR noT) 26)) g A n c ws k b zeroR noT := by
  have hs := hand_start w g hl h zeroR
  exact ⟨⟨hs.rd, hs.x, OwnT.nil _ _, by omega, by omega, hs.only.size, OnlyG.of hs.only (Nat.le_refl _)⟩, hs.z, hl⟩
end
/-- What rule leaves. -/
def RulePost (ws : List ByteArray) (A : Option Addr) (n c g : Nat) (w : World) (e : Ending) (w' : World) : Prop :=
  ∃ (r : Rul) (k' : Nat) (b' : Bool) (T : Option Addr) (tn tc : Nat), e = .returned (rulV r (.slice T tn tc)) ∧ tn = r.ts.length ∧ SizR r ∧ (∀ t ∈ r.ts, I64 t.nu) ∧ OwnT w' (w.heap.size + 2) (.slice T tn tc) r.ts ∧ RdS w' g A n c ws k' b' ∧
    (∀ r0, GoodR r0 → ws = wordsR r0 → r = r0 ∧ k' = n ∧ b' = false) ∧ OnlyR g w w'
theorem RuSt.fin {w wr : World} {g n c k : Nat} {A : Option Addr} {ws : List ByteArray} {b : Bool} {r : Rul} {T : Option Addr} {tn tc : Nat} (h : RuSt w wr g A n c ws k b r (.slice T tn tc)) (hm : RdR r n)
    (hc : ∀ r0, GoodR r0 → ws = wordsR r0 → r = r0 ∧ k = n ∧ b = false) : RulePost ws A n c g w (.returned (rulV r (.slice T tn tc))) (wr.setRow w.heap.size (rulC r (.slice T tn tc))) := by
  have hl := h.lt
  have ht := h.p.rd.top
  have hn : tn = r.ts.length := by
    obtain ⟨T', tc', e, _⟩ := h.p.form
    injection e
  refine ⟨r, k, b, T, tn, tc, rfl, hn, hm.siz (by omega), hm.num, h.p.own.row (by omega) _, ⟨Blk.row_other h.p.rd.blk _ (by omega), h.p.rd.str.keep (below_row (Below.refl g wr) (by omega) _) (Nat.le_refl _), h.p.rd.len, h.p.rd.top, h.p.rd.low⟩, hc, ?_⟩
  have ho := h.p.only.only
  exact ⟨ho.os, ho.tape, ho.output, by rw [setRow_size]; exact ho.size, fun i hi hne => (setRow_other _ _ _ _ (by omega)).trans (ho.block i hi hne)⟩
theorem rule_key {ws : List ByteArray} {n k k' : Nat} {b b' : Bool} {r : Rul} {q : ByteArray} (hp : ∀ r0, GoodR r0 → ws = wordsR r0 → b = false ∧ PathAt r0 k r ∧ (∀ f, ws[k]? = some f → f ≠ fF ∧ f ≠ fC)) (hk : ∀ x, KeyAt ws k x → q = x ∧ k' = n ∧ b' = b) :
    ∀ r0, GoodR r0 → ws = wordsR r0 → ({ r with ke := q } : Rul) = r0 ∧ k' = n ∧ b' = false := fun r0 hg e => by
  obtain ⟨h1, h2, h3⟩ := hp r0 hg e
  rw [e] at h3
  obtain ⟨e1, e2⟩ := h2.stop hg.ok h3
  have hK := key_at e1 hg.ok
  rw [← e] at hK
  obtain ⟨k1, k2, k3⟩ := hk _ hK
  exact ⟨by rw [k1, e2], k2, by rw [k3, h1]⟩
theorem rule_part {ws : List ByteArray} {n k k1 k2 : Nat} {b b1 b2 b3 : Bool} {r r' : Rul} {x : ByteArray} (hl : n = ws.length) (hp : b = false → ∀ r0, GoodR r0 → ws = wordsR r0 → PathAt r0 k r) (hb : b = false) (hf : wordAt ws k = fF ∨ wordAt ws k = fC)
    (e1 : k < n → b1 = b) (hk1 : nextK n k = k1) (e2 : k1 < n → b2 = b1) (hk2 : nextK n k1 = k2) (hx : wordAt ws k1 = x) (hr : ∀ p : Part, p.ok → p.txt = x → r' = r.put p ∧ b3 = b2) :
    ∀ r0, GoodR r0 → ws = wordsR r0 → b3 = false ∧ PathAt r0 k2 r' := fun r0 hg e => by
  have hP := hp hb r0 hg e
  have hlt : k < n := by
    rw [hl]
    by_cases h : k < ws.length
    · exact h
    · rw [wordAt_end (by omega)] at hf
      rcases hf with h | h <;> exact absurd h (by decide)
  have a1 : k1 = k + 1 := by rw [← hk1]; exact nextK_in hlt
  rw [wordAt_in (by omega)] at hf
  have hf0 : (wordsR r0)[k]? = some (ws[k]'(by omega)) := by rw [← e]; exact List.getElem?_eq_getElem (by omega)
  obtain ⟨p, hpo, hpw⟩ := hP.part hg hf0 hf
  have hpw2 := hpw
  rw [← e] at hpw2
  obtain ⟨y1, y2⟩ := wordAt_some hpw2
  have hx2 : p.txt = x := by rw [← hx, a1]; exact y1.symm
  have a2 : k2 = k + 2 := by rw [← hk2, a1]; exact nextK_in (by omega)
  refine ⟨by rw [(hr p hpo hx2).2, e2 (by omega), e1 hlt, hb], ?_⟩
  rw [a2]
  exact hP.step hg hf0 hf hpw (fun q hq hqt => (hr q hq (hqt.trans hx2)).1)
attribute [local irreducible] unqS unqE quoteS permS permL checkR readM maskS actF listF
set_option maxRecDepth 100000 in
set_option maxHeartbeats 4000000 in
theorem vrule (ws : List ByteArray) (hws : ∀ x ∈ ws, x.size ≤ 100000) (A : Option Addr) (n c g : Nat) (w0 w : World) (h : RdS w g A n c ws 0 false) (hG : Gl w0 g w) :
    Calls Tryz.prog 53 #[.pointer (some ⟨g, 0, none⟩)] w (RulePost ws A n c g w) := by
  have H := Lib.hid h
  have HG := Lib.hid hG
  have HWS := Lib.hid hws
  have hlt : g < w.heap.size := h.lt
  have ST0 := Lib.hid (ru_start hlt h)
  have HLEN := Lib.hid h.len
  clear h hG hws
  go_enter Tryz.func53, Tryz.ntmps53
  go_wp2_with fail
  refine (vword ws A n c 0 false g fA _ ST0.out.p.rd).mono ?_
  rintro e w1 ⟨b1, rfl, h1, e1, o1⟩
  have ST1 := Lib.hid (ST0.out.step h1 o1)
  have E1 := Lib.hid e1
  clear h1 e1 o1 ST0
  obtain ⟨k1, hk1⟩ : ∃ k1, nextK n 0 = k1 := ⟨_, rfl⟩
  rw [hk1] at ST1
  have HK1 := Lib.hid hk1
  clear hk1
  go_wp2_with fail
  refine (vnext ws A n c k1 b1 g _ ST1.out.p.rd).mono ?_
  rintro e w2 ⟨b2, rfl, h2, e2, o2⟩
  have ST2 := Lib.hid (ST1.out.step h2 o2)
  have E2 := Lib.hid e2
  clear h2 e2 o2 ST1
  obtain ⟨k2, hk2⟩ : ∃ k2, nextK n k1 = k2 := ⟨_, rfl⟩
  rw [hk2] at ST2
  have HK2 := Lib.hid hk2
  clear hk2
  obtain ⟨x1, hx1⟩ : ∃ x1, wordAt ws k1 = x1 := ⟨_, rfl⟩
  rw [hx1]
  have HX1 := Lib.hid hx1
  have HZ1 := Lib.hid (show x1.size ≤ 100000 by rw [← hx1]; exact wordAt_size HWS.out k1)
  clear hx1
  go_wp2_with fail
  refine (vcut1 x1 44 _ HZ1.out).mono ?_
  rintro e w3 hcut
  obtain ⟨hb3, a, l, ok, rfl, hal⟩ := cut_two hcut
  have ST3 := Lib.hid (ST2.out.below hb3)
  have HAL := Lib.hid hal
  clear hb3 hal hcut ST2
  go_wp2_with fail
  refine (vactNum a _ (ST3.out.glob HG.out).now.ac).mono ?_
  rintro e w4 ⟨rfl, rfl⟩
  go_wp2_with fail
  refine (vlistNum l _ (ST3.out.glob HG.out).now.li).mono ?_
  rintro e w5 ⟨rfl, rfl⟩
  have HAA := Lib.hid (show ∀ r0, checkR r0 = 0 → x1 = headW r0 → actF a = r0.ac ∧ listF l = r0.li from fun r0 hok e => by
    have hz := checkR_zero hok
    obtain ⟨f1, f2⟩ := HAL.out (actN r0.ac.toNat) (listN r0.li.toNat) (noc_act _ (by rcases hz.ac with h | h <;> omega)) e
    rw [f1, f2]
    exact ⟨actF_self hz.ac, listF_self hz.li⟩)
  generalize actF a = ac at *
  generalize listF l = li at *
  clear HAL
  have HH := Lib.hid (show HeadE ws n b1 b2 k1 k2 x1 ac li from ⟨HLEN.out, E1.out, HK1.out, E2.out, HX1.out, HK2.out, HAA.out⟩)
  have c0 := RulB.c0 ST3.out.p.x
  have c1 := RulB.c1 ST3.out.p.x
  have f0 := ST3.out.p.x.free 0
  have f1 := ST3.out.p.x.free 1
  have ST4 := Lib.hid (show RuSt w _ g A n c ws k2 b2 { zeroR with ac := ac, li := li } noT from (ST3.out.ac ac).li li)
  clear ST3 HAA E1 E2 HK1 HK2 HX1 HZ1
  go_upto_region 5 with (fail)
  clear c0 c1 f0 f1
  obtain ⟨tS, eS, pS, qS⟩ := lit_dec (x := wordAt ws k2) fS_l
  have HPS := Lib.hid (And.intro pS qS)
  clear pS qS
  have HP := Lib.hid (fun W (h : RuSt w W g A n c ws k2 b2 { zeroR with ac := ac, li := li } noT) => vpeek ws A n c k2 b2 g W h.p.rd)
  generalize hx2 : wordAt ws k2 = x2 at *
  have HX2 := Lib.hid hx2
  clear hx2
  go_wp2_with fail
  refine (HP.out _ ST4.out).mono ?_
  rintro e w6 ⟨rfl, m, rfl⟩
  have ST5 := Lib.hid (ST4.out.drewN m)
  clear ST4 HP
  go_upto_if 26 with (fail)
  go_cut [] (fun wx => ∃ k b r, RuSt w wx g A n c ws k b r noT ∧ RdR r 0 ∧ Hid (∀ r0, GoodR r0 → ws = wordsR r0 → b = false ∧ PathAt r0 k r))
  case first =>
    cases tS
    · have HN := Lib.hid (rule_no HH.out (by rw [HX2.out]; exact HPS.out.2 rfl))
      go_wp2_with fail
      go_meet
      exact ⟨_, _, _, ST5.out, ⟨by show 0 < _; omega, by show 0 ≤ 640; omega, by show 0 ≤ 640; omega, fun t ht => (by cases ht), Nat.le_refl _⟩, HN⟩
    · have HY := Lib.hid (show wordAt ws k2 = fS by rw [HX2.out]; exact HPS.out.1 rfl)
      go_wp2_with fail
      refine (vnext ws A n c k2 b2 g _ ST5.out.p.rd).mono ?_
      rintro e w7 ⟨b3, rfl, h3, e3, o3⟩
      have ST6 := Lib.hid (ST5.out.step h3 o3)
      have E3 := Lib.hid e3
      clear h3 e3 o3 ST5
      obtain ⟨k3, hk3⟩ : ∃ k3, nextK n k2 = k3 := ⟨_, rfl⟩
      rw [hk3] at ST6
      have HK3 := Lib.hid hk3
      clear hk3
      go_wp2_with fail
      refine (vnext ws A n c k3 b3 g _ ST6.out.p.rd).mono ?_
      rintro e w8 ⟨b4, rfl, h4, e4, o4⟩
      have ST7 := Lib.hid (ST6.out.step h4 o4)
      have E4 := Lib.hid e4
      clear h4 e4 o4 ST6
      obtain ⟨k4, hk4⟩ : ∃ k4, nextK n k3 = k4 := ⟨_, rfl⟩
      rw [hk4] at ST7
      have HK4 := Lib.hid hk4
      clear hk4
      obtain ⟨x3, hx3⟩ : ∃ x3, wordAt ws k3 = x3 := ⟨_, rfl⟩
      rw [hx3]
      have HX3 := Lib.hid hx3
      have HZ3 := Lib.hid (show x3.size ≤ 100000 by rw [← hx3]; exact wordAt_size HWS.out k3)
      clear hx3
      have HRY := Lib.hid (fun (b5 : Bool) (e5 : (readM x3).2 = 0 → b5 = b4) => rule_yes HH.out HY.out E3.out HK3.out E4.out HK4.out HX3.out e5)
      have hmlt := readM_lt x3
      have HM := Lib.hid (fun W => vmparse x3 W HZ3.out)
      unfold MReadPost readV at HM
      generalize (readM x3).1 = mc at *
      generalize (readM x3).2 = me at *
      go_wp2_with fail
      refine (HM.out _).mono ?_
      rintro e w9 ⟨rfl, hb9⟩
      have ST8 := Lib.hid (ST7.out.below hb9)
      clear hb9 ST7 HM
      by_cases hme : me = 0
      · have t1 : (me != 0) = false := by rw [hme]; rfl
        have HRZ := Lib.hid (HRY.out b4 (fun _ => rfl))
        clear hme
        have c2 := RulB.c2 ST8.out.p.x
        have f2 := ST8.out.p.x.free 2
        have ST9 := Lib.hid (ST8.out.ca mc)
        go_wp2_with fail
        go_meet
        exact ⟨_, _, _, ST9.out, ⟨by show mc < _; omega, by show 0 ≤ 640; omega, by show 0 ≤ 640; omega, fun t ht => (by cases ht), Nat.le_refl _⟩, HRZ⟩
      · have t1 : (me != 0) = true := by simpa using hme
        have HRZ := Lib.hid (HRY.out true (fun h => absurd h hme))
        clear hme
        have k2 := RdB.c2 ST8.out.p.rd.blk
        have g2 := ST8.out.p.rd.blk.free 2
        have ST8b := Lib.hid (ST8.out.step ST8.out.p.rd.bad ((OnlyR.refl g _).put 2 _))
        have c2 := RulB.c2 ST8b.out.p.x
        have f2 := ST8b.out.p.x.free 2
        have ST9 := Lib.hid (ST8b.out.ca mc)
        go_wp2_with fail
        go_meet
        exact ⟨_, _, _, ST9.out, ⟨by show mc < _; omega, by show 0 ≤ 640; omega, by show 0 ≤ 640; omega, fun t ht => (by cases ht), Nat.le_refl _⟩, HRZ⟩
  case rest =>
  obtain ⟨k0, b0, r0, st0, hrd0, hp0⟩ := hcut
  have SA := Lib.hid st0
  have HRA := Lib.hid hrd0
  clear st0 hrd0 ST5 HH HX2 HPS eS
  go_upto_block 0 with (fail)
  go_cut [] (fun wx => ∃ k b r tv, RuSt w wx g A n c ws k b r tv ∧ RdR r n ∧ Hid (∀ r0, GoodR r0 → ws = wordsR r0 → b = false ∧ PathAt r0 k r ∧ (∀ f, ws[k]? = some f → f ≠ fF ∧ f ≠ fC)))
  case first =>
    go_wp2_with fail
    go_loopg [42] (n - k0) (fun gm _ wx => ∃ k b r tv, k + gm = n ∧ RuSt w wx g A n c ws k b r tv ∧ RdR r k ∧ Hid (∀ r0, GoodR r0 → ws = wordsR r0 → b = false ∧ PathAt r0 k r))
    case atStart => exact ⟨k0, b0, r0, noT, by have := SA.out.p.rd.low; omega, SA.out, HRA.out.more (Nat.zero_le _), hp0⟩
    case round =>
      obtain ⟨k, b, r, tv, hkg, hst, hrr, hpp⟩ := hrel
      have ST := Lib.hid hst
      have HR := Lib.hid hrr
      have kb := RdB.c2 hst.p.rd.blk
      have HKN := Lib.hid (show k ≤ n by omega)
      clear hst hrr SA HRA hp0
      cases b
      · obtain ⟨tF, eF, pF, qF⟩ := lit_dec (x := wordAt ws k) fF_l
        obtain ⟨tC, eC, pC, qC⟩ := lit_dec (x := wordAt ws k) fC_l
        have HFC := Lib.hid (And.intro (And.intro pF qF) (And.intro pC qC))
        clear pF qF pC qC
        have HP := Lib.hid (fun W (h : RuSt w W g A n c ws k false r tv) => vpeek ws A n c k false g W h.p.rd)
        generalize hx : wordAt ws k = x at *
        have HX := Lib.hid hx
        clear hx
        have HE0 := Lib.hid (fun (h1 : x ≠ fF) (h2 : x ≠ fC) => show ∀ r0, GoodR r0 → ws = wordsR r0 → false = false ∧ PathAt r0 k r ∧ (∀ f, ws[k]? = some f → f ≠ fF ∧ f ≠ fC) from fun r0 hg e => ⟨rfl, (hpp.out r0 hg e).2, fun f hf => by
          have e2 := (wordAt_some hf).1
          rw [HX.out] at e2
          rw [← e2]; exact ⟨h1, h2⟩⟩)
        have HPP := Lib.hid (show false = false → ∀ r0, GoodR r0 → ws = wordsR r0 → PathAt r0 k r from fun _ r0 hg e => (hpp.out r0 hg e).2)
        have HGO := Lib.hid (fun (hx : x = fF ∨ x = fC) => show wordAt ws k = fF ∨ wordAt ws k = fC by rw [HX.out]; exact hx)
        clear hpp
        go_upto_region 11 with (fail)
        go_cut [56] from 42 to 62 (fun v wx => ∃ t, v = .bool t ∧ (t = true → x = fF ∨ x = fC) ∧ (t = false → x ≠ fF ∧ x ≠ fC) ∧ RuSt w wx g A n c ws k false r tv)
        case first =>
          cases tF
          · cases tC
            · go_wp2_with fail
              refine (HP.out _ ST.out).mono ?_
              rintro e wp ⟨rfl, m1, rfl⟩
              go_wp2_with fail
              refine (HP.out _ (ST.out.drewN m1)).mono ?_
              rintro e wp ⟨rfl, m2, rfl⟩
              go_wp2_with fail
              go_meet
              exact ⟨false, rfl, fun h => absurd h (by decide), fun _ => ⟨HFC.out.1.2 (by first | rfl | trivial), HFC.out.2.2 (by first | rfl | trivial)⟩, by first | exact ST.out.drewN _ | exact (ST.out.drewN m1).drewN m2⟩
            · go_wp2_with fail
              refine (HP.out _ ST.out).mono ?_
              rintro e wp ⟨rfl, m1, rfl⟩
              go_wp2_with fail
              refine (HP.out _ (ST.out.drewN m1)).mono ?_
              rintro e wp ⟨rfl, m2, rfl⟩
              go_wp2_with fail
              go_meet
              exact ⟨true, rfl, fun _ => .inr (HFC.out.2.1 (by first | rfl | trivial)), fun h => absurd h (by decide), by first | exact ST.out.drewN _ | exact (ST.out.drewN m1).drewN m2⟩
          · go_wp2_with fail
            refine (HP.out _ ST.out).mono ?_
            rintro e wp ⟨rfl, m1, rfl⟩
            go_wp2_with fail
            go_meet
            exact ⟨true, rfl, fun _ => .inl (HFC.out.1.1 (by first | rfl | trivial)), fun h => absurd h (by decide), ST.out.drewN m1⟩
        case rest =>
          obtain ⟨t, rfl, ht1, ht2, stc⟩ := hcut
          have STc := Lib.hid stc
          clear stc ST kb HP
          cases t
          · have HE := Lib.hid (HE0.out (ht2 rfl).1 (ht2 rfl).2)
            clear ht1 ht2 HE0 HPP HGO HFC eF eC
            go_wp2_with fail
            go_meet
            exact ⟨k, false, r, tv, STc.out, HR.out.more HKN.out, Lib.hid (fun r0 hg e => ⟨rfl, (HE.out r0 hg e).2⟩)⟩
          · have HF := Lib.hid (HGO.out (ht1 rfl))
            have hk : k < n := by
              have hl := HLEN.out
              by_cases h : k < ws.length
              · omega
              · have hf := HF.out
                rw [wordAt_end (by omega)] at hf
                rcases hf with h | h <;> exact absurd h (by decide)
            clear ht1 ht2 HE0 HGO HFC eF eC
            go_wp2_with fail
            refine (vnext ws A n c k false g _ STc.out.p.rd).mono ?_
            rintro e wn ⟨b1', rfl, hn1, en1, on1⟩
            have STd := Lib.hid (STc.out.step hn1 on1)
            have EN1 := Lib.hid en1
            clear hn1 en1 on1 STc
            obtain ⟨ka, hka⟩ : ∃ ka, nextK n k = ka := ⟨_, rfl⟩
            rw [hka] at STd
            have HKA := Lib.hid hka
            have hka1 : ka = k + 1 := by rw [← hka]; exact nextK_in hk
            clear hka
            go_wp2_with fail
            refine (vnext ws A n c ka b1' g _ STd.out.p.rd).mono ?_
            rintro e wn2 ⟨b2', rfl, hn2, en2, on2⟩
            have STe := Lib.hid (STd.out.step hn2 on2)
            have EN2 := Lib.hid en2
            clear hn2 en2 on2 STd
            obtain ⟨kc, hkc⟩ : ∃ kc, nextK n ka = kc := ⟨_, rfl⟩
            rw [hkc] at STe
            have HKC := Lib.hid hkc
            have hkc1 : k + 1 ≤ kc := by
              rw [← hkc]
              by_cases h : ka < n
              · rw [nextK_in h]; omega
              · rw [nextK_end h]; omega
            clear hkc
            obtain ⟨y, hy⟩ : ∃ y, wordAt ws ka = y := ⟨_, rfl⟩
            rw [hy]
            have HY := Lib.hid hy
            have HZ := Lib.hid (show y.size ≤ 100000 by rw [← hy]; exact wordAt_size HWS.out ka)
            clear hy
            go_wp2_with fail
            refine (vpart ws A n c kc b2' g (w.heap.size + 1) r tv y HZ.out (by have := HR.out.ln; have := STe.out.p.rd.top; omega) w0 _ STe.out.p.at (STe.out.glob HG.out)).mono ?_
            rintro e wn3 ⟨r', tv', b3', rfl, hp3, hm3, hq3⟩
            have STf := Lib.hid (STe.out.then hp3)
            have HRf := Lib.hid ((hm3 k HR.out).more hkc1)
            have HPf := Lib.hid (rule_part (b := false) HLEN.out (fun _ => HPP.out (by first | rfl | trivial)) rfl HF.out EN1.out HKA.out EN2.out HKC.out HY.out hq3)
            have hlow := STe.out.p.rd.low
            clear hp3 hm3 hq3 STe
            go_wp2_with fail
            go_roundg (n - kc)
            case measure => omega
            case rel => exact ⟨kc, b3', r', tv', by omega, STf.out, HRf.out, HPf⟩
      · have HE := Lib.hid (show ∀ r0, GoodR r0 → ws = wordsR r0 → true = false ∧ PathAt r0 k r ∧ (∀ f, ws[k]? = some f → f ≠ fF ∧ f ≠ fC) from fun r0 hg e => absurd (hpp.out r0 hg e).1 (by decide))
        go_wp2_with fail
        go_meet
        exact ⟨k, true, r, tv, ST.out, HR.out.more HKN.out, HE⟩
  case rest =>
  obtain ⟨k, b, r, tv, st, hrd, hp⟩ := hcut
  obtain ⟨T, tc, hf, _⟩ := st.p.form
  subst hf
  have ST := Lib.hid st
  have HR := Lib.hid hrd
  clear st hrd SA HRA hp0
  go_wp2_with fail
  refine (vkey ws HWS.out A n c k b g w0 _ ST.out.p.rd (ST.out.glob HG.out)).mono ?_
  rintro e w7 ⟨ke, k5, b7, rfl, hz, h7, e7, o7⟩
  have STk := Lib.hid (ST.out.step h7 o7)
  have HKY := Lib.hid (rule_key hp.out e7)
  have HZK := Lib.hid hz
  have c7 := RulB.c7 STk.out.p.x
  have f7 := STk.out.p.x.free 7
  have STl := Lib.hid (STk.out.ke ke)
  clear h7 e7 o7 hz ST
  go_wp2_with (first | ((with_reducible refine load_blk ?_ 26 (.tmp 3) ?_ STl.out.p.x ?_ _ Tryz.underlying26 ?_ ?_ ?_); (iterate 4 rfl); exact rul_sz _ _) | ((with_reducible refine store_blk ?_ 26 (.tmp 2) (.tmp 66) ?_ STl.out.z (rulC { r with ke := ke } (.slice T r.ts.length tc)) ?_ ?_ ?_ ?_ ?_ ?_); (iterate 4 rfl); (exact rul_sz _ _); rfl; (exact rul_one _ _ _ _)))
  refine bodyPost_ret (rul_ret1 (fn := Tryz.f53) rfl _ _ w.heap.size { r with ke := ke } (.slice T r.ts.length tc) rfl (Blk.row STl.out.z _)) rfl ?_
  exact STl.out.fin ⟨HR.out.ca, HR.out.pa, HZK.out, HR.out.ts, HR.out.ln⟩ HKY.out
end Go.Proofs.YtbbihfafkpniiaaGreatDoor
/- Parse of the program's rules, of a text that is no shorthand; and of any. -/
namespace Go.Proofs.YtbbihfafkpniiaaGreatDoor
open Go.RowKit
theorem no_rule {s : ByteArray} {ws : List ByteArray} {r : Rul} {n k : Nat} {b : Bool} (hw : IsW 32 s ws) (h0 : wordAt ws 0 ≠ fW ∧ wordAt ws 0 ≠ fT)
    (hc : ∀ r0, GoodR r0 → ws = wordsR r0 → r = r0 ∧ k = n ∧ b = false) (hno : ¬ (b = false ∧ k = n ∧ checkR r = 0 ∧ textR r = s)) : RIs s zeroR 136 := by
  refine .inr ⟨rfl, rfl, fun r0 hg => ⟨fun e => ?_, fun hs e => ?_⟩⟩
  · obtain ⟨e1, e2, e3⟩ := hc r0 hg (words_of_text e hw)
    subst e1
    exact hno ⟨e3, e2, hg.ok, e⟩
  · have := words_of_short e hw
    have h1 : wordAt ws 0 = flagW r0.wa := by rw [this]; rfl
    unfold flagW at h1
    split at h1
    · exact h0.2 h1
    · exact h0.1 h1
theorem OwnT.at {w : World} {lo : Nat} {T : Option Addr} {tn tc : Nat} {ts : List Tst} (h : OwnT w lo (.slice T tn tc) ts) : TestsAt w w.heap.size T ts := by
  obtain ⟨A, c, e, ht⟩ := h.tests
  injection e with e1
  rw [e1]; exact ht
/-- What Parse keeps of a rule with tests. -/
structure QbSt (w wr : World) (g : Nat) (A : Option Addr) (n c : Nat) (ws : List ByteArray) (k : Nat) (b : Bool) (gr : Nat) (r : Rul) (T : Option Addr) (tn tc : Nat) : Prop where
  p : PaSt w wr g A n c ws k b
  x : RulB wr gr r (.slice T tn tc)
  own : OwnT wr (gr + 1) (.slice T tn tc) r.ts
  lt : g < gr
section
variable {w wr w' : World} {g n c k gr tn tc : Nat} {A T : Option Addr} {ws : List ByteArray} {b : Bool} {r : Rul}
theorem QbSt.t (h : QbSt w wr g A n c ws k b gr r T tn tc) : TestsAt wr wr.heap.size T r.ts := h.own.at
theorem QbSt.below (h : QbSt w wr g A n c ws k b gr r T tn tc) (hb : Below wr.heap.size wr w') : QbSt w w' g A n c ws k b gr r T tn tc := ⟨h.p.below hb, Blk.below h.x hb, h.own.below hb, h.lt⟩
theorem QbSt.drewN (h : QbSt w wr g A n c ws k b gr r T tn tc) (m : Nat) : QbSt w (wr.drewN m) g A n c ws k b gr r T tn tc := h.below (below_drewN (Below.refl _ _) m)
theorem QbSt.drew (h : QbSt w wr g A n c ws k b gr r T tn tc) : QbSt w wr.drew g A n c ws k b gr r T tn tc := h.below (Below.refl _ _).drew
theorem PaSt.rowb {r0 : Rul} {v0 : Value} (h : PaSt w wr g A n c ws k b) (hx : RulB wr gr r0 v0) (hg : g < gr) (r : Rul) (T : Option Addr) (tn tc : Nat) (ho : OwnT wr (gr + 1) (.slice T tn tc) r.ts) : QbSt w (wr.setRow gr (rulC r (.slice T tn tc))) g A n c ws k b gr r T tn tc := by
  have hl := h.lt
  exact ⟨⟨Blk.row_other h.z _ (by omega), ⟨Blk.row_other h.rd.blk _ (by omega), h.rd.str.keep (below_row (Below.refl g wr) (by omega) _) (Nat.le_refl _), h.rd.len, h.rd.top, h.rd.low⟩, below_row h.low (by omega) _, hl⟩, Blk.row hx _, ho.row (by omega) _, hg⟩
theorem QbSt.out (h : QbSt w wr g A n c ws k b gr r T tn tc) (r' : Rul) (v : Value) : RulB (wr.setRow w.heap.size (rulC r' v)) w.heap.size r' v ∧ Below w.heap.size w (wr.setRow w.heap.size (rulC r' v)) ∧ TestsAt (wr.setRow w.heap.size (rulC r' v)) (wr.setRow w.heap.size (rulC r' v)).heap.size T r.ts :=
  ⟨Blk.row h.p.z _, below_row h.p.low (Nat.le_refl _) _, (h.own.row (by have := h.p.lt; have := h.lt; omega) _).at⟩
end
attribute [local irreducible] unqS unqE quoteS permS permL checkR shortT textR
set_option maxRecDepth 100000 in
set_option maxHeartbeats 4000000 in
theorem vparseB (s : ByteArray) (hs : s.size ≤ 100000) (w : World) (hG : RGlob w) (hE : Env w) (h0 : ∀ ws, IsW 32 s ws → wordAt ws 0 ≠ fW ∧ wordAt ws 0 ≠ fT) :
    Calls Tryz.prog 28 #[.string s] w (RParsePost s w) := by
  have HG := Lib.hid (fun (W : World) (h : Below w.heap.size w W) => hG.below h)
  have HE := Lib.hid (fun (W : World) (h : Below w.heap.size w W) => hE.below h)
  have HGG := Lib.hid hG
  have HEE := Lib.hid hE
  have H0 := Lib.hid h0
  obtain ⟨z0, b0⟩ := rul_box w zeroR noT
  have Z0 := Lib.hid z0
  have B0 := Lib.hid b0
  clear hG hE h0 z0 b0
  go_enter Tryz.func28, Tryz.ntmps28
  go_wp2_with fail
  refine (vsplit s hs _ (HE.out _ B0.out).mx).mono ?_
  rintro e w1 ⟨x, R, ad, rfl, hw, hS, hb1⟩
  obtain ⟨n, hn⟩ : ∃ n, n = R.length + 1 := ⟨_, rfl⟩
  have hsz := hw.size
  have hx0 := H0.out _ hw
  have hrd := rd_new w1 ad (x :: R) n hn (by have := hsz.1; rw [List.length_cons] at this; omega) hS
  rw [← hn]
  have hlen : n = (x :: R).length := hn
  clear hn
  generalize x :: R = ws at *
  have st0 : PaSt w (w1.alloc (.cells (rdC (.slice (some ad) n n) 0 false) 74)) w1.heap.size (some ad) n n ws 0 false :=
    ⟨Blk.alloc (Blk.below Z0.out hb1) _, hrd, (below_then B0.out hb1).alloc (below_then B0.out hb1).size _, by have := (Blk.below Z0.out hb1).lt; exact this⟩
  have HW := Lib.hid hw
  have HSZ := Lib.hid (show ∀ x ∈ ws, x.size ≤ 100000 from fun x hx => by have := hsz.2 x hx; omega)
  have HLEN := Lib.hid hlen
  have HX0 := Lib.hid hx0
  have ST0 := Lib.hid st0
  clear hw hS hb1 hsz hrd st0 hlen hx0
  go_upto_region 2 with (fail)
  go_cut [5] (fun v wx => v = .bool false ∧ PaSt w wx w1.heap.size (some ad) n n ws 0 false)
  case first =>
    have HP := Lib.hid (fun W (h : PaSt w W w1.heap.size (some ad) n n ws 0 false) => vpeek ws (some ad) n n 0 false w1.heap.size W h.rd)
    have t1 := lit_ne fW_l HX0.out.1
    have t2 := lit_ne fT_l HX0.out.2
    generalize wordAt ws 0 = x0 at *
    go_wp2_with fail
    refine (HP.out _ ST0.out).mono ?_
    rintro e w2 ⟨rfl, m, rfl⟩
    go_wp2_with fail
    refine (HP.out _ (ST0.out.drewN _)).mono ?_
    rintro e w2 ⟨rfl, m2, rfl⟩
    go_wp2_with fail
    go_meet
    exact ⟨rfl, ST0.out.drewN _⟩
  case rest =>
  obtain ⟨rfl, st1⟩ := hcut
  have hlt1 := st1.rd.lt
  obtain ⟨hz2, hb2⟩ := rul_box wc zeroR noT
  have st2 := st1.alloc (.cells (rulC zeroR noT) 26)
  have ST2 := Lib.hid st2
  have HZ2 := Lib.hid hz2
  have HGL := Lib.hid (show Gl w w1.heap.size (wc.alloc (.cells (rulC zeroR noT) 26)) from ⟨HGG.out, HEE.out, st2.low, Nat.le_of_lt st2.lt⟩)
  clear st1 st2 hz2 hb2 ST0
  go_wp2_with fail
  refine (vrule ws HSZ.out (some ad) n n w1.heap.size w _ ST2.out.rd HGL.out).mono ?_
  rintro e w3 ⟨r, k', b', T, tn, tc, rfl, htn, hsiz, hnum, hown, hrd, hc, ho⟩
  have st3 := ST2.out.to hrd (ho.below (Nat.le_refl _) (Nat.le_of_lt ST2.out.rd.lt))
  have hx3 := Blk.onlyR HZ2.out ho (by omega)
  have ST3 := Lib.hid st3
  have HX3 := Lib.hid hx3
  have HC := Lib.hid hc
  have HTN := Lib.hid htn
  have HZR := Lib.hid hsiz
  have HNU := Lib.hid hnum
  have HOW := Lib.hid hown
  have hltg : wc.heap.size < w3.heap.size := hx3.lt
  clear hrd ho st3 hx3 hc htn hsiz hnum hown ST2 HZ2 HGL
  go_upto_region 7 with ((with_reducible refine store_blk ?_ 26 (.tmp 6) (.tmp 24) ?_ HX3.out (rulC r (.slice T tn tc)) ?_ ?_ ?_ ?_ ?_ ?_); (iterate 4 rfl); (exact rul_sz _ _); rfl; (exact rul_one _ _ _ _))
  simp only [put_none0]
  have st4 := ST3.out.rowb HX3.out hlt1 r T tn tc (HOW.out.low (by simp))
  clear ST3 HX3 hlt1 hltg HOW
  generalize wc.heap.size = gr at *
  generalize w3.setRow gr (rulC r (.slice T tn tc)) = w4 at *
  generalize w1.heap.size = g at *
  have ST4 := Lib.hid st4
  have k0 := RdB.c0 st4.p.rd.blk
  have k1 := RdB.c1 st4.p.rd.blk
  have k2 := RdB.c2 st4.p.rd.blk
  clear st4
  have HCK := Lib.hid (fun W (h : TestsAt W W.heap.size T r.ts) => vcheckR r T tc tn HTN.out HZR.out W h)
  go_cut [45] (fun v wx => VerdR b' k' n r v ∧ QbSt w wx g (some ad) n n ws k' b' gr r T tn tc)
  case first =>
    cases b'
    · by_cases hk : k' = n
      · have d1 : ((k' : Int) != (n : Int)) = false := by simp; omega
        have HK := Lib.hid hk
        clear hk
        go_still_tail 17, (by kernel_rfl)
        refine load_blk_gR ?_ 26 (.tmp 6) ?_ ST4.out.drew.x ?_ _ Tryz.underlying26 ?_ ?_ ?_
        · rfl
        · rfl
        · rfl
        · rfl
        · exact rul_sz _ _
        go_wp2_with fail
        refine (HCK.out _ ST4.out.drew.t).mono ?_
        rintro e w5 ⟨rfl, hb5⟩
        have ST5 := Lib.hid (ST4.out.drew.below hb5)
        clear hb5 k0 k1 k2
        by_cases he : checkR r = 0
        · have t1 : (checkR r != 0) = false := by rw [he]; rfl
          have HE0 := Lib.hid he
          clear he
          go_wp2_with fail
          go_meet
          exact ⟨verd_ok HK.out HE0.out, ST5.out⟩
        · have t1 : (checkR r != 0) = true := by simpa using he
          have HE0 := Lib.hid he
          clear he
          go_wp2_with fail
          go_meet
          exact ⟨verd_chk HE0.out, ST5.out⟩
      · have d1 : ((k' : Int) != (n : Int)) = true := by simp; omega
        have HK := Lib.hid hk
        clear hk
        go_quiet (fail)
        go_wp2_with fail
        go_meet
        exact ⟨verd_at HK.out, ST4.out.drewN _⟩
    · go_quiet (fail)
      go_wp2_with fail
      go_meet
      exact ⟨verd_bad, ST4.out.drewN _⟩
  case rest =>
  obtain ⟨⟨t, rfl, ht1, ht2⟩, st5⟩ := hcut
  clear k0 k1 k2 ST4
  have ST5 := Lib.hid st5
  have HT := Lib.hid (And.intro ht1 ht2)
  clear st5 ht1 ht2
  have HN := Lib.hid (fun hno => no_rule (s := s) (r := r) HW.out HX0.out HC.out hno)
  cases t
  · obtain ⟨hk1, hk2, hk3⟩ := HT.out.1 rfl
    have HGD := Lib.hid (show GoodR r from ⟨hk3, HNU.out⟩)
    have HSH := Lib.hid (fun W (h : Below w.heap.size w W) (ht : TestsAt W W.heap.size T r.ts) => vformatR_ok r T tn tc HTN.out HGD.out W ht (HG.out _ h))
    have HNO := Lib.hid (fun h : textR r ≠ s => HN.out (fun hh => h hh.2.2.2))
    clear hk1 hk2 hk3 HN HT
    go_wp2_with ((with_reducible refine load_blk ?_ 26 (.tmp 6) ?_ ST5.out.x ?_ _ Tryz.underlying26 ?_ ?_ ?_); (iterate 4 rfl); exact rul_sz _ _)
    refine (HSH.out _ ST5.out.p.low ST5.out.t).mono ?_
    rintro e w6 ⟨rfl, hb6⟩
    have ST6 := Lib.hid (ST5.out.below hb6)
    clear hb6 ST5
    by_cases he : textR r = s
    · have HR := Lib.hid (show RIs s r 0 from .inl ⟨rfl, HGD.out, .inl he⟩)
      have t1 := str_eq he
      clear he
      go_wp2_with (first | ((with_reducible refine load_blk ?_ 26 (.tmp 6) ?_ ST6.out.x ?_ _ Tryz.underlying26 ?_ ?_ ?_); (iterate 4 rfl); exact rul_sz _ _) | ((with_reducible refine store_blk ?_ 26 (.tmp 2) (.tmp 59) ?_ ST6.out.p.z (rulC r (.slice T tn tc)) ?_ ?_ ?_ ?_ ?_ ?_); (iterate 4 rfl); (exact rul_sz _ _); rfl; (exact rul_one _ _ _ _)))
      refine bodyPost_ret (rul_ret2 (fn := Tryz.f28) rfl _ _ w.heap.size r (.slice T tn tc) rfl (ST6.out.out _ _).1) rfl ?_
      exact ⟨r, T, tn, tc, 0, rfl, HTN.out, HR.out, (ST6.out.out _ _).2.2, (ST6.out.out _ _).2.1⟩
    · have HR := Lib.hid (HNO.out he)
      have t1 := str_ne he
      clear he
      go_wp2_with ((with_reducible refine store_blk ?_ 26 (.tmp 2) (.tmp 58) ?_ ST6.out.p.z (rulC zeroR noT) ?_ ?_ ?_ ?_ ?_ ?_); (iterate 4 rfl); (exact rul_sz _ _); rfl; (exact rul_one _ _ _ _))
      refine bodyPost_ret (rul_ret2 (fn := Tryz.f28) rfl _ _ w.heap.size zeroR noT rfl (ST6.out.out _ _).1) rfl ?_
      exact ⟨zeroR, none, 0, 0, 136, rfl, rfl, HR.out, TestsAt.nil, (ST6.out.out _ _).2.1⟩
  · have HR := Lib.hid (HN.out (fun h => HT.out.2 rfl ⟨h.1, h.2.1, h.2.2.1⟩))
    clear HN HT HC
    go_wp2_with ((with_reducible refine store_blk ?_ 26 (.tmp 2) (.tmp 46) ?_ ST5.out.p.z (rulC zeroR noT) ?_ ?_ ?_ ?_ ?_ ?_); (iterate 4 rfl); (exact rul_sz _ _); rfl; (exact rul_one _ _ _ _))
    refine bodyPost_ret (rul_ret2 (fn := Tryz.f28) rfl _ _ w.heap.size zeroR noT rfl (ST5.out.out _ _).1) rfl ?_
    exact ⟨zeroR, none, 0, 0, 136, rfl, rfl, HR.out, TestsAt.nil, (ST5.out.out _ _).2.1⟩
theorem vparse (s : ByteArray) (hs : s.size ≤ 100000) (w : World) (hG : RGlob w) (hE : Env w) : Calls Tryz.prog 28 #[.string s] w (RParsePost s w) := by
  have hu : ∀ ws us, IsW 32 s ws → IsW 32 s us → ws = us := fun ws us h k => h.unique k
  by_cases h : ∀ ws, IsW 32 s ws → wordAt ws 0 = fW ∨ wordAt ws 0 = fT
  · exact vparseA s hs w hG hE h
  · refine vparseB s hs w hG hE fun ws hw => ⟨fun e => h fun us hu2 => ?_, fun e => h fun us hu2 => ?_⟩
    · rw [hu us ws hu2 hw]; exact .inl e
    · rw [hu us ws hu2 hw]; exact .inr e
end Go.Proofs.YtbbihfafkpniiaaGreatDoor

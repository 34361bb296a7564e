/- Texts of one proof, laid together. -/
import Derived.Test.YtbbihfafkpniiaaGreatDoorC17
import Derived.Laws.StructEq
import Derived.Deep.QuietTactic
import Derived.BigQuiet
import Derived.Test.YtbbihfafkpniiaaGreatDoorD04
import Derived.Test.YtbbihfafkpniiaaGreatDoorC26
import Derived.Test.YtbbihfafkpniiaaGreatDoorC02
/- Two tests compared; two lists of tests compared by the program. -/
namespace Go.Proofs.YtbbihfafkpniiaaGreatDoor
open Go.RowKit
def tstB (t u : Tst) : Bool := (t.fd == u.fd) && ((t.op == u.op) && ((t.nu == u.nu) && ((t.tx.toList == u.tx.toList) && (t.ot == u.ot))))
theorem tstB_eq {t u : Tst} : tstB t u = true ↔ t = u := by
  obtain ⟨a, b, c, d, e⟩ := t
  obtain ⟨a', b', c', d', e'⟩ := u
  unfold tstB
  simp only [Bool.and_eq_true, beq_iff_eq, Tst.mk.injEq, ByteArray.toList_eq]
  constructor
  · rintro ⟨h1, h2, h3, h4, h5⟩
    exact ⟨h1, h2, h3, bytes_ext h4, h5⟩
  · rintro ⟨h1, h2, h3, h4, h5⟩
    exact ⟨h1, h2, h3, by rw [h4], h5⟩
theorem eqI (w : World) (d : Nat) (x y : Int) : (Op.equalIn (d + 1) 3 (.int .i64 x) (.int .i64 y)).run Tryz.prog w = .ok (x == y) w := by
  simp [Op.equalIn, run_underlying Tryz.underlying3]
theorem eqS (w : World) (d : Nat) (x y : ByteArray) : (Op.equalIn (d + 1) 9 (.string x) (.string y)).run Tryz.prog w = .ok (x.toList == y.toList) w := by
  simp [Op.equalIn, run_underlying Tryz.underlying9, beq_toListBytes]
theorem map_five {α β : Type} {l : List α} {g : α → β} {x0 x1 x2 x3 x4 : β} (h : l.map g = [x0, x1, x2, x3, x4]) : ∃ f0 f1 f2 f3 f4, l = [f0, f1, f2, f3, f4] ∧ g f0 = x0 ∧ g f1 = x1 ∧ g f2 = x2 ∧ g f3 = x3 ∧ g f4 = x4 := by
  have hl := congrArg List.length h
  simp at hl
  match l, hl with
  | [f0, f1, f2, f3, f4], _ =>
    simp at h
    exact ⟨f0, f1, f2, f3, f4, rfl, h.1, h.2.1, h.2.2.1, h.2.2.2.1, h.2.2.2.2⟩
set_option maxRecDepth 100000 in
theorem tst_eq (t u : Tst) (w : World) : (Op.equalIn 10000 40 (tstV t) (tstV u)).run Tryz.prog w = .ok (tstB t u) w := by
  have hu : Tryz.prog.underlying 40 = some (.struct (Tryz.prog.fieldsOf 40)) := by kernel_rfl
  have hs : Tryz.prog.stoodInHeld 40 = false := by kernel_rfl
  rw [run_equalIn_struct w 9999 _ _ _ hu hs]
  obtain ⟨a, b, c, d, e⟩ := t
  obtain ⟨a', b', c', d', e'⟩ := u
  have hm : (Tryz.prog.fieldsOf 40).toList.map (fun f => (f.name == "_", f.type, f.offset)) = [(false, 3, 0), (false, 3, 1), (false, 3, 2), (false, 9, 3), (false, 3, 4)] := by kernel_rfl
  obtain ⟨f0, f1, f2, f3, f4, hl, e0, e1, e2, e3, e4⟩ := map_five hm
  simp only [Prod.mk.injEq, beq_eq_false_iff_ne, ne_eq] at e0 e1 e2 e3 e4
  obtain ⟨n0, t0, o0⟩ := e0
  obtain ⟨n1, t1, o1⟩ := e1
  obtain ⟨n2, t2, o2⟩ := e2
  obtain ⟨n3, t3, o3⟩ := e3
  obtain ⟨n4, t4, o4⟩ := e4
  have p0 : ∀ (a b c e : Int) (d : ByteArray) (w : World), (part 3 #[.int .i64 a, .int .i64 b, .int .i64 c, .string d, .int .i64 e] 0).run Tryz.prog w = .ok (.int .i64 a) w := fun _ _ _ _ _ _ => by show _ = _; kernel_rfl
  have p1 : ∀ (a b c e : Int) (d : ByteArray) (w : World), (part 3 #[.int .i64 a, .int .i64 b, .int .i64 c, .string d, .int .i64 e] 1).run Tryz.prog w = .ok (.int .i64 b) w := fun _ _ _ _ _ _ => by show _ = _; kernel_rfl
  have p2 : ∀ (a b c e : Int) (d : ByteArray) (w : World), (part 3 #[.int .i64 a, .int .i64 b, .int .i64 c, .string d, .int .i64 e] 2).run Tryz.prog w = .ok (.int .i64 c) w := fun _ _ _ _ _ _ => by show _ = _; kernel_rfl
  have p3 : ∀ (a b c e : Int) (d : ByteArray) (w : World), (part 9 #[.int .i64 a, .int .i64 b, .int .i64 c, .string d, .int .i64 e] 3).run Tryz.prog w = .ok (.string d) w := fun _ _ _ _ _ _ => by show _ = _; kernel_rfl
  have p4 : ∀ (a b c e : Int) (d : ByteArray) (w : World), (part 3 #[.int .i64 a, .int .i64 b, .int .i64 c, .string d, .int .i64 e] 4).run Tryz.prog w = .ok (.int .i64 e) w := fun _ _ _ _ _ _ => by show _ = _; kernel_rfl
  have ei := fun x y w => eqI w 9998 x y
  have es := fun x y w => eqS w 9998 x y
  rw [hl]
  unfold tstB
  simp only [Op.eqFields, n0, n1, n2, n3, n4, not_false_eq_true, t0, t1, t2, t3, t4, o0, o1, o2, o3, o4, ne_eq, not_false_eq_true, if_true, Sem.run_bind, p0, Result.andThen_ok, ei, es]
  cases h0 : (a == a') <;> cases h1 : (b == b') <;> cases h2 : (c == c') <;> cases h3 : (d.toList == d'.toList) <;> cases h4 : (e == e') <;> simp [h0, h1, h2, h3, h4, p0, p1, p2, p3, p4, ei, es]
end Go.Proofs.YtbbihfafkpniiaaGreatDoor
/- Equal of rules, of the program and of the reference. -/
namespace Go.Proofs.YtbbihfafkpniiaaGreatDoor
open Go.RowKit
/-- A comparison of x with z. -/
def EqPost {α : Type} (x z : α) (w : World) (e : Ending) (w' : World) : Prop := ∃ y : Bool, e = .returned (.bool y) ∧ (y = true ↔ x = z) ∧ Below w.heap.size w w'
theorem EqPost.no {α : Type} {x z : α} {w w' : World} (h : x ≠ z) (hb : Below w.heap.size w w') : EqPost x z w (.returned (.bool false)) w' := ⟨false, rfl, ⟨fun e => by (cases e), fun e => absurd e h⟩, hb⟩
theorem EqPost.yes {α : Type} {x z : α} {w w' : World} (h : x = z) (hb : Below w.heap.size w w') : EqPost x z w (.returned (.bool true)) w' := ⟨true, rfl, ⟨fun _ => h, fun _ => rfl⟩, hb⟩
theorem take_eq_next {a b : List Tst} {k : Nat} (ha : k < a.length) (hb : k < b.length) (h : a.take k = b.take k) (he : a[k] = b[k]) : a.take (k + 1) = b.take (k + 1) := by
  rw [List.take_succ_eq_append_getElem ha, List.take_succ_eq_append_getElem hb, h, he]
theorem ne_at {a b : List Tst} {k : Nat} (ha : k < a.length) (hb : k < b.length) (he : a[k] ≠ b[k]) : a ≠ b := fun e => by subst e; exact he rfl
theorem eq_all {a b : List Tst} {n : Nat} (ha : n = a.length) (hb : n = b.length) (h : a.take n = b.take n) : a = b := by
  rw [ha, List.take_length] at h
  rw [← ha, hb, List.take_length] at h
  exact h
set_option maxRecDepth 100000 in
set_option maxHeartbeats 4000000 in
theorem vslEq (A B : Option Addr) (na nb ca cb : Nat) (a b : List Tst) (hna : na = a.length) (hnb : nb = b.length) (hl : na ≤ 1000000) (w : World) (M : Nat) (hM : M ≤ w.heap.size) (ha : TestsAt w M A a) (hb : TestsAt w M B b) :
    Calls Tryz.prog 55 #[.slice A na ca, .slice B nb cb] w (EqPost a b w) := by
  by_cases hne : na = nb
  case neg =>
    have b1 : ((na : Int) != (nb : Int)) = true := by simp; omega
    have HX := Lib.hid (show a ≠ b from fun e => hne (by rw [hna, hnb, e]))
    clear hne hna hnb ha hb
    go_enter Tryz.func55, Tryz.ntmps55
    go_wp2_with fail
    go_ret
    exact EqPost.no HX.out (Below.refl _ _)
  case pos =>
  subst hne
  have b1 : ((na : Int) != (na : Int)) = false := by simp
  have HA := Lib.hid hna
  have HB := Lib.hid hnb
  have HTA := Lib.hid ha
  have HTB := Lib.hid hb
  clear hna hnb ha hb
  go_enter Tryz.func55, Tryz.ntmps55
  go_wp2_with fail
  go_loopw [13] (fun i wr => ∃ k : Nat, k ≤ na ∧ i = .int .i64 (k : Int) ∧ Hid (a.take k = b.take k) ∧ Below w.heap.size w wr) (fun i _ => na - (intOf i).toNat)
  case atStart => exact ⟨0, Nat.zero_le _, rfl, Lib.hid rfl, Below.refl _ _⟩
  case round =>
    obtain ⟨k, hk, rfl, htk, hbw⟩ := hrel
    have HBW := Lib.hid hbw
    by_cases hlt : k < na
    · have hka : k < a.length := by rw [← HA.out]; exact hlt
      have hkb : k < b.length := by rw [← HB.out]; exact hlt
      obtain ⟨ad, rfl, _, s0, s1, s2, s3, s4⟩ := (HTA.out.keep hbw hM).cells hka
      obtain ⟨bd, rfl, _, u0, u1, u2, u3, u4⟩ := (HTB.out.keep hbw hM).cells hkb
      have HNX := Lib.hid (take_eq_next hka hkb htk.out)
      have HNE := Lib.hid (ne_at (a := a) (b := b) hka hkb)
      have k0 : (0 : Int) ≤ (k : Int) := by omega
      have kn : (k : Int) < (na : Int) := by omega
      clear hbw
      generalize a[k] = x at *
      generalize b[k] = z at *
      have hq := tst_eq x z
      cases hy : tstB x z
      · rw [hy] at hq
        have HX := Lib.hid (HNE.out (fun e => by rw [tstB_eq.2 e] at hy; cases hy))
        clear hy HNX HNE
        go_wp2_with fail
        go_quiet (fail)
        go_wp2_with fail
        go_ret
        exact EqPost.no HX.out (below_drewN HBW.out _)
      · rw [hy] at hq
        have HX := Lib.hid (HNX.out (tstB_eq.1 hy))
        clear hy HNX HNE
        go_wp2_with fail
        go_quiet (fail)
        go_wp2_with fail
        go_roundw
        case rel => exact ⟨k + 1, by omega, by go_num, HX, below_drewN HBW.out _⟩
        case measure => simp [intOf]; omega
    · have hkn : k = na := by omega
      subst hkn
      have HX := Lib.hid (eq_all HA.out HB.out htk.out)
      clear hlt hbw
      go_wp2_with fail
      go_ret
      exact EqPost.yes HX.out HBW.out
theorem two_box (w : World) (x z : Rul) (v u : Value) : RulB ((w.alloc (.cells (rulC x v) 26)).alloc (.cells (rulC z u) 26)) w.heap.size x v ∧ RulB ((w.alloc (.cells (rulC x v) 26)).alloc (.cells (rulC z u) 26)) (w.heap.size + 1) z u ∧ Below w.heap.size w ((w.alloc (.cells (rulC x v) 26)).alloc (.cells (rulC z u) 26)) := by
  refine ⟨(Blk.new w _ _).alloc _, ?_, ((Below.refl _ _).alloc (Nat.le_refl _) _).alloc (by simp) _⟩
  have := Blk.new (w.alloc (.cells (rulC x v) 26)) (rulC z u) 26
  simpa using this
theorem rul_eq {x z : Rul} (h1 : (x.li == z.li) = true) (h2 : (x.ac == z.ac) = true) (h3 : ((x.ca : Int) == (z.ca : Int)) = true) (h4 : x.ts = z.ts) (h5 : (x.wa == z.wa) = true) (h6 : (x.pa.toList == z.pa.toList) = true) (h7 : (x.pe == z.pe) = true) (h8 : (x.ke.toList == z.ke.toList) = true) : x = z := by
  obtain ⟨a1, a2, a3, a4, a5, a6, a7, a8⟩ := x
  obtain ⟨b1, b2, b3, b4, b5, b6, b7, b8⟩ := z
  simp only [beq_iff_eq, ByteArray.toList_eq] at h1 h2 h3 h4 h5 h6 h7 h8
  simp only [Rul.mk.injEq]
  exact ⟨h1, h2, by omega, h4, h5, bytes_ext h6, h7, bytes_ext h8⟩
set_option maxRecDepth 100000 in
set_option maxHeartbeats 16000000 in
theorem vequalR (x z : Rul) (A B : Option Addr) (na nb ca cb : Nat) (hna : na = x.ts.length) (hnb : nb = z.ts.length) (hl : na ≤ 1000000) (w : World) (ha : TestsAt w w.heap.size A x.ts) (hb : TestsAt w w.heap.size B z.ts) :
    Calls Tryz.prog 29 #[rulV x (.slice A na ca), rulV z (.slice B nb cb)] w (EqPost x z w) := by
  obtain ⟨HG1, HG2, HBW⟩ := two_box w x z (.slice A na ca) (.slice B nb cb)
  have HG1 := Lib.hid HG1
  have HG2 := Lib.hid HG2
  have HBX := Lib.hid HBW
  clear HBW
  cases eli : (x.li == z.li)
  · skip
    have HX := Lib.hid (show x ≠ z from fun e => by rw [e] at eli; simp at eli)
    clear ha hb hna hnb
    go_enter Tryz.func29, Tryz.ntmps29
    go_wp2_with fail
    go_ret
    exact EqPost.no HX.out HBX.out
  cases eac : (x.ac == z.ac)
  · skip
    have HX := Lib.hid (show x ≠ z from fun e => by rw [e] at eac; simp at eac)
    clear ha hb hna hnb
    go_enter Tryz.func29, Tryz.ntmps29
    go_wp2_with fail
    go_ret
    exact EqPost.no HX.out HBX.out
  cases eca : ((x.ca : Int) == (z.ca : Int))
  · skip
    have HX := Lib.hid (show x ≠ z from fun e => by rw [e] at eca; simp at eca)
    clear ha hb hna hnb
    go_enter Tryz.func29, Tryz.ntmps29
    go_wp2_with fail
    go_ret
    exact EqPost.no HX.out HBX.out
  have HSL := Lib.hid (vslEq A B na nb ca cb x.ts z.ts hna hnb hl ((w.alloc (.cells (rulC x (.slice A na ca)) 26)).alloc (.cells (rulC z (.slice B nb cb)) 26)) w.heap.size HBX.out.size (ha.keep HBX.out (Nat.le_refl _)) (hb.keep HBX.out (Nat.le_refl _)))
  clear ha hb hna hnb
  go_enter Tryz.func29, Tryz.ntmps29
  go_wp2_with fail
  refine HSL.out.mono ?_
  rintro e w1 ⟨y, rfl, hy, hb1⟩
  obtain ⟨p0, p1, p2, p3, p4, p5, p6, p7⟩ := rul_cells (Blk.below HG1.out hb1)
  obtain ⟨q0, q1, q2, q3, q4, q5, q6, q7⟩ := rul_cells (Blk.below HG2.out hb1)
  have HB1 := Lib.hid (HBX.out.trans (hb1.mono HBX.out.size))
  have HY := Lib.hid hy
  clear hb1 hy HSL
  cases y
  · have HX := Lib.hid (show x ≠ z from fun e => by have := HY.out.2 (by rw [e]); first | cases this | simp at this)
    go_wp2_with fail
    go_ret
    exact EqPost.no HX.out HB1.out
  have HTS := Lib.hid (HY.out.1 (by first | rfl | trivial))
  clear HY
  cases ewa : (x.wa == z.wa)
  · have HX := Lib.hid (show x ≠ z from fun e => by rw [e] at ewa; simp at ewa)
    go_wp2_with fail
    go_ret
    exact EqPost.no HX.out HB1.out
  cases epa : (x.pa.toList == z.pa.toList)
  · have HX := Lib.hid (show x ≠ z from fun e => by rw [e] at epa; simp at epa)
    go_wp2_with fail
    go_ret
    exact EqPost.no HX.out HB1.out
  cases epe : (x.pe == z.pe)
  · have HX := Lib.hid (show x ≠ z from fun e => by rw [e] at epe; simp at epe)
    go_wp2_with fail
    go_ret
    exact EqPost.no HX.out HB1.out
  cases eke : (x.ke.toList == z.ke.toList)
  · have HX := Lib.hid (show x ≠ z from fun e => by rw [e] at eke; simp at eke)
    go_wp2_with fail
    go_ret
    exact EqPost.no HX.out HB1.out
  have HX := Lib.hid (rul_eq eli eac eca HTS.out ewa epa epe eke)
  go_wp2_with fail
  go_ret
  exact EqPost.yes HX.out HB1.out
set_option maxRecDepth 100000 in
set_option maxHeartbeats 16000000 in
theorem requalR (x z : Rul) (A B : Option Addr) (na nb ca cb : Nat) (hna : na = x.ts.length) (hnb : nb = z.ts.length) (hl : na ≤ 1000000) (w : World) (ha : TestsAt w w.heap.size A x.ts) (hb : TestsAt w w.heap.size B z.ts) :
    Calls Tryz.prog 26 #[rulV x (.slice A na ca), rulV z (.slice B nb cb)] w (EqPost x z w) := by
  obtain ⟨HG1, HG2, HBW⟩ := two_box w x z (.slice A na ca) (.slice B nb cb)
  have HG1 := Lib.hid HG1
  have HG2 := Lib.hid HG2
  have HBX := Lib.hid HBW
  clear HBW
  cases eli : (x.li == z.li)
  · have nli : (x.li != z.li) = true := by simp [bne, eli]
    have HX := Lib.hid (show x ≠ z from fun e => by rw [e] at eli; simp at eli)
    clear ha hb hna hnb
    go_enter Tryz.func26, Tryz.ntmps26
    go_wp2_with fail
    go_ret
    exact EqPost.no HX.out HBX.out
  have nli : (x.li != z.li) = false := by simp [bne, eli]
  cases eac : (x.ac == z.ac)
  · have nac : (x.ac != z.ac) = true := by simp [bne, eac]
    have HX := Lib.hid (show x ≠ z from fun e => by rw [e] at eac; simp at eac)
    clear ha hb hna hnb
    go_enter Tryz.func26, Tryz.ntmps26
    go_wp2_with fail
    go_ret
    exact EqPost.no HX.out HBX.out
  have nac : (x.ac != z.ac) = false := by simp [bne, eac]
  cases eca : ((x.ca : Int) == (z.ca : Int))
  · have nca : ((x.ca : Int) != (z.ca : Int)) = true := by simp [bne, eca]
    have HX := Lib.hid (show x ≠ z from fun e => by rw [e] at eca; simp at eca)
    clear ha hb hna hnb
    go_enter Tryz.func26, Tryz.ntmps26
    go_wp2_with fail
    go_ret
    exact EqPost.no HX.out HBX.out
  have nca : ((x.ca : Int) != (z.ca : Int)) = false := by simp [bne, eca]
  cases ewa : (x.wa == z.wa)
  · have nwa : (x.wa != z.wa) = true := by simp [bne, ewa]
    have HX := Lib.hid (show x ≠ z from fun e => by rw [e] at ewa; simp at ewa)
    clear ha hb hna hnb
    go_enter Tryz.func26, Tryz.ntmps26
    go_wp2_with fail
    go_ret
    exact EqPost.no HX.out HBX.out
  have nwa : (x.wa != z.wa) = false := by simp [bne, ewa]
  cases epa : (x.pa.toList == z.pa.toList)
  · have npa : (x.pa.toList != z.pa.toList) = true := by simp [bne, epa]
    have HX := Lib.hid (show x ≠ z from fun e => by rw [e] at epa; simp at epa)
    clear ha hb hna hnb
    go_enter Tryz.func26, Tryz.ntmps26
    go_wp2_with fail
    go_ret
    exact EqPost.no HX.out HBX.out
  have npa : (x.pa.toList != z.pa.toList) = false := by simp [bne, epa]
  cases epe : (x.pe == z.pe)
  · have npe : (x.pe != z.pe) = true := by simp [bne, epe]
    have HX := Lib.hid (show x ≠ z from fun e => by rw [e] at epe; simp at epe)
    clear ha hb hna hnb
    go_enter Tryz.func26, Tryz.ntmps26
    go_wp2_with fail
    go_ret
    exact EqPost.no HX.out HBX.out
  have npe : (x.pe != z.pe) = false := by simp [bne, epe]
  cases eke : (x.ke.toList == z.ke.toList)
  · have nke : (x.ke.toList != z.ke.toList) = true := by simp [bne, eke]
    have HX := Lib.hid (show x ≠ z from fun e => by rw [e] at eke; simp at eke)
    clear ha hb hna hnb
    go_enter Tryz.func26, Tryz.ntmps26
    go_wp2_with fail
    go_ret
    exact EqPost.no HX.out HBX.out
  have nke : (x.ke.toList != z.ke.toList) = false := by simp [bne, eke]
  by_cases hne : na = nb
  case neg =>
    have b1 : ((na : Int) != (nb : Int)) = true := by simp; omega
    have HX := Lib.hid (show x ≠ z from fun e => hne (by rw [hna, hnb, e]))
    clear hne hna hnb ha hb
    go_enter Tryz.func26, Tryz.ntmps26
    go_wp2_with fail
    go_ret
    exact EqPost.no HX.out HBX.out
  case pos =>
  subst hne
  have b1 : ((na : Int) != (na : Int)) = false := by simp
  have HEQ := Lib.hid (fun h4 => rul_eq eli eac eca h4 ewa epa epe eke)
  have HA := Lib.hid hna
  have HB := Lib.hid hnb
  have HTA := Lib.hid (ha.keep HBX.out (Nat.le_refl _))
  have HTB := Lib.hid (hb.keep HBX.out (Nat.le_refl _))
  clear hna hnb ha hb
  go_enter Tryz.func26, Tryz.ntmps26
  go_wp2_with fail
  generalize (w.alloc (.cells (rulC x (.slice A na ca)) 26)).alloc (.cells (rulC z (.slice B na cb)) 26) = W at *
  clear eli eac eca ewa epa epe eke nli nac nca nwa npa npe nke b1
  go_loopw [5] (fun i wr => ∃ k : Nat, k ≤ na ∧ i = .int .i64 (k : Int) ∧ Hid (x.ts.take k = z.ts.take k) ∧ Below W.heap.size W wr) (fun i _ => na - (intOf i).toNat)
  case atStart => exact ⟨0, Nat.zero_le _, rfl, Lib.hid rfl, Below.refl _ _⟩
  case round =>
    obtain ⟨k, hk, rfl, htk, hbw⟩ := hrel
    have HBW := Lib.hid (HBX.out.trans (hbw.mono HBX.out.size))
    have HBI := Lib.hid hbw
    have q3 := RulB.c3 (Blk.below HG1.out hbw)
    have q4 := RulB.c3 (Blk.below HG2.out hbw)
    by_cases hlt : k < na
    · have hka : k < x.ts.length := by rw [← HA.out]; exact hlt
      have hkb : k < z.ts.length := by rw [← HB.out]; exact hlt
      obtain ⟨ad, rfl, _, s0, s1, s2, s3, s4⟩ := (HTA.out.keep hbw HBX.out.size).cells hka
      obtain ⟨bd, rfl, _, u0, u1, u2, u3, u4⟩ := (HTB.out.keep hbw HBX.out.size).cells hkb
      have HNX := Lib.hid (take_eq_next hka hkb htk.out)
      have HNE := Lib.hid (ne_at (a := x.ts) (b := z.ts) hka hkb)
      have k0 : (0 : Int) ≤ (k : Int) := by omega
      have kn : (k : Int) < (na : Int) := by omega
      clear hbw
      generalize x.ts[k] = t at *
      generalize z.ts[k] = u at *
      have hq := tst_eq t u
      cases hy : tstB t u
      · rw [hy] at hq
        have HX := Lib.hid (show x ≠ z from fun e => (HNE.out (fun e => by rw [tstB_eq.2 e] at hy; cases hy)) (by rw [e]))
        clear hy HNX HNE
        go_wp2_with fail
        go_quiet (fail)
        go_wp2_with fail
        go_ret
        exact EqPost.no HX.out (below_drewN HBW.out _)
      · rw [hy] at hq
        have HX := Lib.hid (HNX.out (tstB_eq.1 hy))
        clear hy HNX HNE
        go_wp2_with fail
        go_quiet (fail)
        go_wp2_with fail
        go_roundw
        case rel => exact ⟨k + 1, by omega, by go_num, HX, below_drewN HBI.out _⟩
        case measure => simp [intOf]; omega
    · have hkn : k = na := by omega
      subst hkn
      have HX := Lib.hid (HEQ.out (eq_all HA.out HB.out htk.out))
      clear hlt hbw
      go_wp2_with fail
      go_ret
      exact EqPost.yes HX.out HBW.out
end Go.Proofs.YtbbihfafkpniiaaGreatDoor
/- The walk of the law RuleDiffer. -/
namespace Go.Proofs.YtbbihfafkpniiaaGreatDoor
open Go.RowKit
section
variable {w wr w' : World} {gc k : Nat} {b b' : Int} {r r' : Rul} {tv tv' : Value}
theorem OwnT.farRow {w : World} {lo k : Nat} {v : Value} {ts : List Tst} (h : OwnT w lo v ts) (hne : v.ownBlock ≠ some k) (cs : Array Value) : OwnT (w.setRow k cs) lo v ts :=
  World.ownsRow.kept h (row := some k) ⟨rfl, rfl, rfl, by rw [setRow_size]; exact Nat.le_refl _, fun i _ hne => setRow_other _ k i cs (fun e => hne (by rw [e]))⟩ (.inr hne)
theorem LRSt.farRow (h : LRSt w wr gc b r tv) (cs : Array Value) (hk : w.heap.size < k) (hne : k ≠ gc) (ht : tv.ownBlock ≠ some k) : LRSt w (wr.setRow k cs) gc b r tv :=
  ⟨below_row h.low (by omega) _, h.src.keep (setRow_other _ _ _ _ (by omega)) (fun i hi => setRow_other _ _ _ _ (by omega)), Blk.row_other h.cb _ (fun e => hne e.symm), h.own.farRow ht _, h.ne, h.siz, h.num, h.hg⟩
theorem LRSt.farPut (h : LRSt w wr gc b r tv) (i : Nat) (v : Value) (hk : w.heap.size < k) (hne : k ≠ gc) (ht : tv.ownBlock ≠ some k) : LRSt w (wr.setCell ⟨k, i, none⟩ v) gc b r tv :=
  ⟨h.low.setCell (by show w.heap.size ≤ k; omega) _, h.src.setCell (by show w.heap.size ≤ k; omega) (by show k ≠ w.heap.size; omega) _, Blk.put_other h.cb v (fun e => hne e.symm), h.own.far ht _ _, h.ne, h.siz, h.num, h.hg⟩
/-- A rule is written into a block of the law's own. -/
theorem lr_row {x : Rul} {xv : Value} (hlow : Below w.heap.size w wr) (hs : SrcOk wr w.heap.size w.heap.size b) (hx : RulB wr k x xv) (hk : w.heap.size < k) (hown : OwnT wr (w.heap.size + 1) tv r.ts) (hne : tv.ownBlock ≠ some k) (hz : SizR r) (hn : ∀ t ∈ r.ts, I64 t.nu) : LRSt w (wr.setRow k (rulC r tv)) k b r tv :=
  ⟨below_row hlow (by omega) _, hs.keep (setRow_other _ _ _ _ (by omega)) (fun i hi => setRow_other _ _ _ _ (by omega)), Blk.row hx _, hown.farRow hne _, hne, hz, hn, hk⟩
/-- Two rules in blocks of the law's own. -/
structure LD (w wr : World) (ga gb : Nat) (bb : Int) (a b : Rul) (ta tb : Value) : Prop where
  p : LRSt w wr ga bb a ta
  q : LRSt w wr gb bb b tb
  ne : ga ≠ gb
  na : ta.ownBlock ≠ some gb
variable {ga gb : Nat} {bb bb' : Int} {a q : Rul} {ta tb : Value}
theorem LD.step (h : LD w wr ga gb bb a q ta tb) (hs : SrcOk w' w.heap.size w.heap.size bb') (hg : wr.grownBy w' (some w.heap.size)) : LD w w' ga gb bb' a q ta tb := ⟨h.p.step hs hg, h.q.step hs hg, h.ne, h.na⟩
theorem LD.below (h : LD w wr ga gb bb a q ta tb) (hb : Below wr.heap.size wr w') : LD w w' ga gb bb a q ta tb := ⟨h.p.below hb, h.q.below hb, h.ne, h.na⟩
theorem LD.alloc (h : LD w wr ga gb bb a q ta tb) (o : Obj) : LD w (wr.alloc o) ga gb bb a q ta tb := ⟨h.p.alloc o, h.q.alloc o, h.ne, h.na⟩
theorem LD.more (h : LD w wr ga gb bb a q ta tb) (hb : bb ≤ bb') : LD w wr ga gb bb' a q ta tb := ⟨h.p.more hb, h.q.more hb, h.ne, h.na⟩
theorem LD.copy (h : LD w wr ga gb bb a q ta tb) : LD w (wr.setRow gb (rulC a ta)) ga gb bb a a ta ta :=
  ⟨h.p.farRow _ h.q.hg (fun e => h.ne e.symm) h.na, lr_row h.p.low h.p.src h.q.cb h.q.hg h.p.own h.na h.p.siz h.p.num, h.ne, h.na⟩
theorem LD.ke (h : LD w wr ga gb bb a q ta tb) (v : ByteArray) (hv : v.size ≤ 100000) : LD w (wr.setCell ⟨gb, 7, none⟩ (.string v)) ga gb bb a { q with ke := v } ta tb :=
  ⟨h.p.farPut _ _ h.q.hg (fun e => h.ne e.symm) h.na, h.q.ke v hv, h.ne, h.na⟩
/-- Two rules that Good made, laid in two new blocks. -/
theorem ld_new {w1 w2 w3 : World} {a r : Rul} {T U : Option Addr} {n c m d : Nat} (hb1 : Below w.heap.size w w1) (h1 : w.heap.size < w1.heap.size) (hg1 : w1.grownBy w2 (some w.heap.size)) (hs : SrcOk w3 w.heap.size w.heap.size b) (hg2 : w2.grownBy w3 (some w.heap.size))
    (hoa : OwnT w2 (w1.heap.size + 1) (.slice T n c) a.ts) (hob : OwnT w3 (w2.heap.size + 1) (.slice U m d) r.ts) (hma : MkR a) (hmb : MkR r) (hna : n = a.ts.length) (hnb : m = r.ts.length) (hla : n ≤ 3) (hlb : m ≤ 3) :
    LD w ((w3.alloc (.cells (rulC a (.slice T n c)) 26)).alloc (.cells (rulC r (.slice U m d)) 26)) w3.heap.size (w3.heap.size + 1) b a r (.slice T n c) (.slice U m d) := by
  have s1 := hg1.size
  have s2 := hg2.size
  have hb2 := below_only hb1 hg1 hb1.size (Nat.le_refl _)
  have hoa3 : OwnT w3 (w1.heap.size + 1) (.slice T n c) a.ts := hoa.only hg2 (by omega)
  have p0 := lr_new hb1 h1 hs (hg1.trans hg2) hoa3 hma hna hla
  have q0 := lr_new (w2 := w3.alloc (.cells (rulC a (.slice T n c)) 26)) hb2 (by omega) (hs.alloc _) (only_alloc hg2 _) (hob.alloc _) hmb hnb hlb
  have e : (w3.alloc (.cells (rulC a (.slice T n c)) 26)).heap.size = w3.heap.size + 1 := by simp
  rw [e] at q0
  exact ⟨p0.alloc _, q0, by omega, fun e2 => by have := (World.ownsRow.lt hoa3 _ e2).2; omega⟩
theorem LRSt.at {T : Option Addr} {n c : Nat} (h : LRSt w wr gc b r (.slice T n c)) : n = r.ts.length ∧ TestsAt wr wr.heap.size T r.ts := by
  obtain ⟨A, c', e, ht⟩ := h.form
  injection e with e1 e2 e3
  subst e1 e3
  exact ⟨e2, ht⟩
end
theorem check_ke {a : Rul} (h : checkR a = 0) (v : ByteArray) (hv : v.size ≤ 31) : checkR { a with ke := v } = 0 := by
  have hz := checkR_zero h
  have hc : callsOk { a with ke := v } = true := by
    rcases hz.ca with ⟨h1, h2, h3⟩ | ⟨h1, h2⟩
    · rw [callsOk_yes (r := { a with ke := v }) h1]; exact decide_eq_true ⟨h2, h3⟩
    · rw [callsOk_no (r := { a with ke := v }) h1]; exact decide_eq_true h2
  rw [checkR_tail (r := { a with ke := v }) hz.li hz.ac hc]
  exact tail_ok (r := { a with ke := v }) (by have := hz.len; show ¬ 8 < a.ts.length; omega) hz.tst hz.wat (by show ¬ 31 < v.size; omega)
theorem eq_texts {a q : Rul} (ha : GoodR a) (hq : GoodR q) {y : Bool} (h : y = true ↔ a = q) : (((fmtR a).toList == (fmtR q).toList) == y) = true := by
  have e1 : fmtR a = textR a := if_pos ha.ok
  have e2 : fmtR q = textR q := if_pos hq.ok
  rw [e1, e2]
  by_cases h1 : a = q
  · subst h1; rw [h.2 rfl]; simp
  · have hy : y = false := by
      cases y
      · rfl
      · exact absurd (h.1 rfl) h1
    have ht := str_ne (fun e => h1 (text_inj ha hq e))
    rw [hy, ht]; rfl
theorem key_words {key : ByteArray} (h : key.size ≤ 31) : strsLe #[.string key, .string ⟨#[107]⟩, .string ⟨#[120]⟩] 31 = true := by
  simp [strsLe, h]; decide
attribute [local irreducible] checkR fmtR
set_option maxRecDepth 100000 in
set_option maxHeartbeats 8000000 in
theorem ruleDiffer_walk (w : World) (A : Option Addr) (n c : Nat) (hn : (n : Int) ≤ 9223372036854775807)
    (hl : ∀ k, k < n → ∃ (ad : Addr) (z : Int), A = some ad ∧ ad.block < w.heap.size ∧ w.cell? (ad.add k) = some (.int .i64 z) ∧ -9223372036854775808 ≤ z ∧ z ≤ 9223372036854775807) (hG : RGlob w) (hE : Env w) :
    Calls Tryz.prog 7 #[.slice A n c] w fun e w' => e = .returned (.bool true) ∧ Below w.heap.size w w' := by
  have HL := Lib.hid hl
  have HN := Lib.hid hn
  have HGL := Lib.hid (fun (W : World) (h : Below w.heap.size w W) => hG.below h)
  have HAW := Lib.hid (fun (W : World) (h : Below w.heap.size w W) => awakeR W (hG.below h) (hE.below h))
  clear hl hn hG hE
  go_enter Tryz.func7, Tryz.ntmps7
  go_wp2_with fail
  refine (src_new _ A n c HN.out HL.out).mono ?_
  rintro e w1 ⟨rfl, hs1, hb1⟩
  have HLT1 := Lib.hid (src_lt hs1)
  have HS1 := Lib.hid hs1
  have HB1 := Lib.hid hb1
  clear hs1 hb1
  go_wp2_with fail
  refine (src_good _ w.heap.size w.heap.size 0 HS1.out (by omega)).mono ?_
  rintro e w2 ⟨a, T, tn, tc, rfl, htn, htl, hm, hca, hown, hs, hg⟩
  have HS2 := Lib.hid hs
  have HG2 := Lib.hid hg
  have HA := Lib.hid (And.intro htn (And.intro htl (And.intro hm (And.intro hca hown))))
  clear htn htl hm hca hown hs hg HS1
  go_wp2_with fail
  refine (src_good _ w.heap.size w.heap.size (0 + 1600) HS2.out (by omega)).mono ?_
  rintro e w3 ⟨q, U, un, uc, rfl, hun, hul, hmq, hcq, hownq, hs, hg⟩
  have st := ld_new HB1.out HLT1.out HG2.out hs hg HA.out.2.2.2.2 hownq HA.out.2.2.1 hmq HA.out.1 hun HA.out.2.1 hul
  have HGA := Lib.hid (show GoodR a from ⟨HA.out.2.2.2.1, st.p.num⟩)
  have HGQ := Lib.hid (show GoodR q from ⟨hcq, st.q.num⟩)
  have HKA := Lib.hid (show a.ke.size ≤ 31 by have := HA.out.2.2.1.ke; omega)
  have ST0 := Lib.hid st
  clear hun hul hmq hcq hownq hs hg HS2 HG2 HA HB1 HLT1 st
  go_wp2_with fail
  refine (src_n _ w.heap.size w.heap.size (0 + 1600 + 1600) 3 ST0.out.p.src (by omega) (by omega) (by omega)).mono ?_
  rintro e w4 ⟨y, rfl, y0, y1, hs, hg⟩
  have ST1 := Lib.hid (ST0.out.step hs hg)
  clear hs hg ST0
  generalize w3.heap.size = ga at *
  obtain ⟨gb, hgb⟩ : ∃ gb, gb = ga + 1 := ⟨_, rfl⟩
  rw [← hgb] at ST1
  simp only [← hgb]
  clear hgb
  go_upto_if 18 with (fail)
  go_cut [] (fun wx => ∃ q U un uc, GoodR q ∧ LD w wx ga gb 10000 a q (.slice T tn tc) (.slice U un uc))
  case first =>
    by_cases hy : y = 0
    · have ty : (y == 0) = true := by simpa using hy
      clear hy
      have ST2 := Lib.hid ST1.out.copy
      have c7 := RulB.c7 ST2.out.p.cb
      go_wp2_with (first | ((with_reducible refine load_blk ?_ 26 (.tmp 4) ?_ ST1.out.p.cb ?_ _ Tryz.underlying26 ?_ ?_ ?_); (iterate 4 rfl); exact rul_sz _ _) | ((with_reducible refine store_blk ?_ 26 (.tmp 5) (.tmp 19) ?_ ST1.out.q.cb (rulC a (.slice T tn tc)) ?_ ?_ ?_ ?_ ?_ ?_); (iterate 4 rfl); (exact rul_sz _ _); rfl; (exact rul_one _ _ _ _)))
      have hsz := setRow_size w4 gb (rulC a (.slice T tn tc))
      have HLT := ST2.out.p.lt
      have HSR := Lib.hid ST2
      clear ST2 ST1
      have ST2 := HSR.out
      rw [← hsz]
      generalize w4.setRow gb (rulC a (.slice T tn tc)) = W5 at *
      refine (src_word _ w.heap.size w.heap.size W5.heap.size (0 + 1600 + 1600 + 1) 3 31 _ 9 (0, 0) (ST2.out.p.src.alloc _) (by omega) (heap_alloc_new W5 _) (by omega) rfl (by omega) (by omega) (key_words HKA.out)).mono ?_
      rintro e w5 ⟨v, rfl, hv, hs, hg⟩
      have st := (ST2.out.alloc (.cells #[.string a.ke, .string ⟨#[107]⟩, .string ⟨#[120]⟩] 9)).step hs hg
      have q7 := RulB.c7 st.q.cb
      have f7 := st.q.cb.free 7
      have ST5 := Lib.hid (st.ke v (by omega))
      have HGV := Lib.hid (show GoodR { a with ke := v } from ⟨check_ke HGA.out.ok v hv, HGA.out.nums⟩)
      clear st hs hg ST2
      go_wp2_with fail
      go_meet
      exact ⟨_, _, _, _, HGV.out, ST5.out.more (by omega)⟩
    · have ty : (y == 0) = false := by simpa using hy
      clear hy
      go_wp2_with fail
      go_meet
      exact ⟨_, _, _, _, HGQ.out, ST1.out.more (by omega)⟩
  case rest =>
  obtain ⟨q', U', un', uc', hgq, st⟩ := hcut
  have HGQ' := Lib.hid hgq
  have ST2 := Lib.hid st
  clear hgq st ST1 HGQ
  have HFM := Lib.hid (fun (W : World) (h : LD w W ga gb 10000 a q' (.slice T tn tc) (.slice U' un' uc')) => vformatR a T tn tc h.p.at.1 h.p.siz h.p.num W h.p.at.2 (HGL.out W h.p.low))
  have HFQ := Lib.hid (fun (W : World) (h : LD w W ga gb 10000 a q' (.slice T tn tc) (.slice U' un' uc')) => vformatR q' U' un' uc' h.q.at.1 h.q.siz h.q.num W h.q.at.2 (HGL.out W h.p.low))
  have HEQ := Lib.hid (fun (W : World) (h : LD w W ga gb 10000 a q' (.slice T tn tc) (.slice U' un' uc')) => requalR a q' T U' tn un' tc uc' h.p.at.1 h.q.at.1 (by have := h.p.at.1; have := h.p.siz.ln; omega) W h.p.at.2 h.q.at.2)
  have HCA := Lib.hid (fun (W : World) (h : LD w W ga gb 10000 a q' (.slice T tn tc) (.slice U' un' uc')) => vcheckR a T tc tn h.p.at.1 h.p.siz W h.p.at.2)
  have HCQ := Lib.hid (fun (W : World) (h : LD w W ga gb 10000 a q' (.slice T tn tc) (.slice U' un' uc')) => vcheckR q' U' uc' un' h.q.at.1 h.q.siz W h.q.at.2)
  have HTX := Lib.hid (fun (y : Bool) (h : y = true ↔ a = q') => eq_texts HGA.out HGQ'.out h)
  have za : checkR a = 0 := HGA.out.ok
  have zq : checkR q' = 0 := HGQ'.out.ok
  simp only [fmtV, za, zq] at HFM HFQ HCA HCQ
  go_wp2_with ((with_reducible refine load_blk ?_ 26 (.tmp 4) ?_ ST2.out.p.cb ?_ _ Tryz.underlying26 ?_ ?_ ?_); (iterate 4 rfl); exact rul_sz _ _)
  refine (HFM.out _ ST2.out).mono ?_
  rintro e w6 ⟨rfl, hb6⟩
  have ST3 := Lib.hid (ST2.out.below hb6)
  clear hb6 ST2
  go_wp2_with ((with_reducible refine load_blk ?_ 26 (.tmp 5) ?_ ST3.out.q.cb ?_ _ Tryz.underlying26 ?_ ?_ ?_); (iterate 4 rfl); exact rul_sz _ _)
  refine (HFQ.out _ ST3.out).mono ?_
  rintro e w7 ⟨rfl, hb7⟩
  have ST4 := Lib.hid (ST3.out.below hb7)
  clear hb7 ST3
  go_wp2_with (first | ((with_reducible refine load_blk_gR ?_ 26 (.tmp 4) ?_ ST4.out.p.cb ?_ _ Tryz.underlying26 ?_ ?_ ?_); (iterate 4 rfl); exact rul_sz _ _) | ((with_reducible refine load_blk_gR ?_ 26 (.tmp 5) ?_ ST4.out.q.cb ?_ _ Tryz.underlying26 ?_ ?_ ?_); (iterate 4 rfl); exact rul_sz _ _))
  refine (HEQ.out _ ST4.out).mono ?_
  rintro e w8 ⟨y, rfl, hy, hb8⟩
  have ty := HTX.out y hy
  have ST5 := Lib.hid (ST4.out.below hb8)
  clear hb8 ST4 hy
  go_wp2_with ((with_reducible refine load_blk_gR ?_ 26 (.tmp 4) ?_ ST5.out.p.cb ?_ _ Tryz.underlying26 ?_ ?_ ?_); (iterate 4 rfl); exact rul_sz _ _)
  refine (HCA.out _ ST5.out).mono ?_
  rintro e w9 ⟨rfl, hb9⟩
  have ST6 := Lib.hid (ST5.out.below hb9)
  clear hb9 ST5
  go_wp2_with ((with_reducible refine load_blk_gR ?_ 26 (.tmp 5) ?_ ST6.out.q.cb ?_ _ Tryz.underlying26 ?_ ?_ ?_); (iterate 4 rfl); exact rul_sz _ _)
  refine (HCQ.out _ ST6.out).mono ?_
  rintro e w10 ⟨rfl, hb10⟩
  have ST7 := Lib.hid (ST6.out.below hb10)
  clear hb10 ST6
  go_wp2_with fail
  refine (HAW.out _ ST7.out.p.low).mono ?_
  rintro e w11 ⟨rfl, hb11⟩
  have HB := Lib.hid (below_then ST7.out.p.low hb11)
  clear hb11
  go_wp2_with fail
  go_ret
  exact ⟨rfl, HB.out⟩
end Go.Proofs.YtbbihfafkpniiaaGreatDoor
/- The walk of RuleDiffer, with what the row lists. -/

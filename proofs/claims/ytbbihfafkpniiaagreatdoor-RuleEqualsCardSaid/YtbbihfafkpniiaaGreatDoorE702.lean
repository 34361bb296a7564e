/- Texts of one proof, laid together. -/
import Derived.Test.YtbbihfafkpniiaaGreatDoorE701
import Derived.Deep.RegionHeld
import Derived.Deep.RegionLaw
import Derived.Test.YtbbihfafkpniiaaGreatDoorC26
import Derived.Test.YtbbihfafkpniiaaGreatDoorC02
/- The walk of the law RuleEquals. -/
namespace Go.Proofs.YtbbihfafkpniiaaGreatDoor
open Go.RowKit
theorem eq_both {α : Type} {x z : α} {y y' : Bool} (h : y' = true ↔ x = z) (k : y = true ↔ x = z) : y' = y := by
  cases y <;> cases y' <;> simp_all
/-- What the last test keeps: the five rules. -/
structure EQS (w W : World) (a b r q u : Rul) (A B T U V : Option Addr) (ca cb tc uc vc ga gb gr gq gu : Nat) : Prop where
  a : RdB2 W ga a A a.ts.length ca
  b : RdB2 W gb b B b.ts.length cb
  r : RdB2 W gr r T r.ts.length tc
  q : RdB2 W gq q U q.ts.length uc
  u : RdB2 W gu u V u.ts.length vc
  low : Below w.heap.size w W
theorem eqs_below {w W W' : World} {a b r q u : Rul} {A B T U V : Option Addr} {ca cb tc uc vc ga gb gr gq gu : Nat} (h : EQS w W a b r q u A B T U V ca cb tc uc vc ga gb gr gq gu) (hb : Below W.heap.size W W') : EQS w W' a b r q u A B T U V ca cb tc uc vc ga gb gr gq gu :=
  ⟨h.a.below hb, h.b.below hb, h.r.below hb, h.q.below hb, h.u.below hb, below_then h.low hb⟩
theorem swap_siz {r : Rul} {t0 t1 : Tst} {rest : List Tst} (h : SizR r) (e : r.ts = t0 :: t1 :: rest) : SizR { r with ts := t1 :: t0 :: rest } := ⟨h.ca, h.pa, h.ke, fun t ht => h.tx t (by
  rw [e]
  rcases List.mem_cons.1 ht with rfl | ht
  · simp
  · rcases List.mem_cons.1 ht with rfl | ht
    · simp
    · exact List.mem_cons_of_mem _ (List.mem_cons_of_mem _ ht)), by have := h.ln; rw [e] at this; exact this⟩
theorem swap_num {r : Rul} {t0 t1 : Tst} {rest : List Tst} (h : ∀ t ∈ r.ts, I64 t.nu) (e : r.ts = t0 :: t1 :: rest) : ∀ t ∈ t1 :: t0 :: rest, I64 t.nu := fun t ht => h t (by
  rw [e]
  rcases List.mem_cons.1 ht with rfl | ht
  · simp
  · rcases List.mem_cons.1 ht with rfl | ht
    · simp
    · exact List.mem_cons_of_mem _ (List.mem_cons_of_mem _ ht))
theorem two_cells {w : World} {lo g n c : Nat} {ts : List Tst} {t0 t1 : Tst} {rest : List Tst} (h : OwnT w lo (.slice (some ⟨g, 0, none⟩) n c) ts) (e : ts = t0 :: t1 :: rest) :
    w.cell? ⟨g, 0, none⟩ = some (.int .i64 t0.fd) ∧ w.cell? ⟨g, 1, none⟩ = some (.int .i64 t0.op) ∧ w.cell? ⟨g, 2, none⟩ = some (.int .i64 t0.nu) ∧ w.cell? ⟨g, 3, none⟩ = some (.string t0.tx) ∧ w.cell? ⟨g, 4, none⟩ = some (.int .i64 t0.ot) ∧
    w.cell? ⟨g, 5, none⟩ = some (.int .i64 t1.fd) ∧ w.cell? ⟨g, 6, none⟩ = some (.int .i64 t1.op) ∧ w.cell? ⟨g, 7, none⟩ = some (.int .i64 t1.nu) ∧ w.cell? ⟨g, 8, none⟩ = some (.string t1.tx) ∧ w.cell? ⟨g, 9, none⟩ = some (.int .i64 t1.ot) := by
  subst e
  have hc := fun k u hu => World.ownsRow.cells h (g := g) rfl k u hu
  have hc2 : ∀ k u, ((t0 :: t1 :: rest).flatMap fun t => (tstC t).toList)[k]? = some u → w.cell? ⟨g, k, none⟩ = some u := fun k u hu => by
    have := hc k u hu
    rwa [addT_zero] at this
  exact ⟨hc2 0 _ rfl, hc2 1 _ rfl, hc2 2 _ rfl, hc2 3 _ rfl, hc2 4 _ rfl, hc2 5 _ rfl, hc2 6 _ rfl, hc2 7 _ rfl, hc2 8 _ rfl, hc2 9 _ rfl⟩
theorem row_free {w : World} {lo g n c : Nat} {ts : List Tst} (h : OwnT w lo (.slice (some ⟨g, 0, none⟩) n c) ts) (k : Nat) : w.frozen? ⟨g, k, none⟩ = false := by
  obtain ⟨A, c', e, _⟩ := h.tests
  injection e with _ e2 _
  subst e2
  exact World.ownsRow.frozenAt h k
attribute [local irreducible] lightB checkR
set_option maxRecDepth 100000 in
set_option maxHeartbeats 8000000 in
theorem ruleEquals_walk (w : World) (a : Rul) (A : Option Addr) (ca : Nat) (hIa : InR a) (b : Rul) (B : Option Addr) (cb : Nat) (hIb : InR b) (L : Option Addr) (n c : Nat) (hn : (n : Int) ≤ 9223372036854775807)
    (hl : ∀ k, k < n → ∃ (ad : Addr) (z : Int), L = some ad ∧ ad.block < w.heap.size ∧ w.cell? (ad.add k) = some (.int .i64 z) ∧ -9223372036854775808 ≤ z ∧ z ≤ 9223372036854775807)
    (hTa : TestsAt w w.heap.size A a.ts) (hTb : TestsAt w w.heap.size B b.ts) (hG : RGlob w) (hE : Env w) :
    Calls Tryz.prog 9 #[rulV a (.slice A a.ts.length ca), rulV b (.slice B b.ts.length cb), .slice L n c] w fun e w' => e = .returned (.bool true) ∧ Below w.heap.size w w' := by
  obtain ⟨x1, x2, hb0⟩ := two_box w a b (.slice A a.ts.length ca) (.slice B b.ts.length cb)
  have X1 := Lib.hid x1
  have X2 := Lib.hid x2
  have HB0 := Lib.hid hb0
  have HL := Lib.hid hl
  have HN := Lib.hid hn
  have HAW := Lib.hid (fun (W : World) (h : Below w.heap.size w W) => awakeR W (hG.below h) (hE.below h))
  have HTA := Lib.hid (fun (W : World) (h : Below w.heap.size w W) => (hTa.keep h (Nat.le_refl _)).more h.size)
  have HTB := Lib.hid (fun (W : World) (h : Below w.heap.size w W) => (hTb.keep h (Nat.le_refl _)).more h.size)
  have HLA := Lib.hid (fun (W : World) (h : Below w.heap.size w W) => vlight a A a.ts.length ca rfl (in_light hIa) W (HTA.out W h))
  have HLB := Lib.hid (fun (W : World) (h : Below w.heap.size w W) => vlight b B b.ts.length cb rfl (in_light hIb) W (HTB.out W h))
  have HZA := Lib.hid (fun (h : lightB a = true) => light_siz h hIa.ca)
  have HZB := Lib.hid (fun (h : lightB b = true) => light_siz h hIb.ca)
  clear x1 x2 hb0 hl hn hTa hTb hG hE hIa hIb
  go_enter Tryz.func9, Tryz.ntmps9
  go_wp2_with ((with_reducible refine load_blk ?_ 26 (.tmp 3) ?_ X1.out ?_ _ Tryz.underlying26 ?_ ?_ ?_); (iterate 4 rfl); exact rul_sz _ _)
  refine (HLA.out _ HB0.out).mono ?_
  rintro e w1 ⟨rfl, hb1⟩
  have X1a := Lib.hid (Blk.below X1.out hb1)
  have X2a := Lib.hid (Blk.below X2.out hb1)
  have HB1 := Lib.hid (below_then HB0.out hb1)
  clear hb1 X1 X2 HB0 HLA
  cases hla : lightB a
  · clear hla
    go_wp2_with fail
    refine (HAW.out _ HB1.out).mono ?_
    rintro e w2 ⟨rfl, hb2⟩
    have HB2 := Lib.hid (below_then HB1.out hb2)
    clear hb2
    go_wp2_with fail
    go_ret
    exact ⟨rfl, HB2.out⟩
  have HSA := Lib.hid (HZA.out hla)
  clear hla HZA
  go_wp2_with ((with_reducible refine load_blk_gR ?_ 26 (.tmp 4) ?_ X2a.out ?_ _ Tryz.underlying26 ?_ ?_ ?_); (iterate 4 rfl); exact rul_sz _ _)
  refine (HLB.out _ HB1.out).mono ?_
  rintro e w2 ⟨rfl, hb2⟩
  have X1b := Lib.hid (Blk.below X1a.out hb2)
  have X2b := Lib.hid (Blk.below X2a.out hb2)
  have HB2 := Lib.hid (below_then HB1.out hb2)
  clear hb2 X1a X2a HB1 HLB
  cases hlb : lightB b
  · clear hlb
    go_wp2_with fail
    refine (HAW.out _ HB2.out).mono ?_
    rintro e w3 ⟨rfl, hb3⟩
    have HB3 := Lib.hid (below_then HB2.out hb3)
    clear hb3
    go_wp2_with fail
    go_ret
    exact ⟨rfl, HB3.out⟩
  have HSB := Lib.hid (HZB.out hlb)
  clear hlb HZB
  have HL2 := Lib.hid (show ∀ k, k < n → ∃ (ad : Addr) (z : Int), L = some ad ∧ ad.block < w2.heap.size ∧ w2.cell? (ad.add k) = some (.int .i64 z) ∧ -9223372036854775808 ≤ z ∧ z ≤ 9223372036854775807 from fun k hk => by
    obtain ⟨ad, z, e, h1, h2, h3⟩ := HL.out k hk
    exact ⟨ad, z, e, Nat.lt_of_lt_of_le h1 HB2.out.size, (HB2.out.cell (by rw [strs_block]; exact h1)).trans h2, h3⟩)
  clear HL
  go_wp2_with fail
  refine (src_new w2 L n c HN.out HL2.out).mono ?_
  rintro e w3 ⟨rfl, hs3, hb3⟩
  have HLT3 := Lib.hid (src_lt hs3)
  have HS3 := Lib.hid hs3
  have HB3 := Lib.hid hb3
  clear hs3 hb3
  go_wp2_with fail
  refine (src_rule _ w2.heap.size w2.heap.size 0 HS3.out (by omega)).mono ?_
  rintro e w4 ⟨r, T, tn, tc, rfl, htn, htl, hm, hown, hs, hg⟩
  have HS4 := Lib.hid hs
  have HG4 := Lib.hid hg
  have HR := Lib.hid (And.intro htn (And.intro htl (And.intro hm hown)))
  clear htn htl hm hown hs hg HS3
  go_wp2_with fail
  refine (src_rule _ w2.heap.size w2.heap.size (0 + 200) HS4.out (by omega)).mono ?_
  rintro e w5 ⟨q, U, un, uc, rfl, hun, hul, hmq, hownq, hs, hg⟩
  have LD0 := Lib.hid (ld_new HB3.out HLT3.out HG4.out hs hg HR.out.2.2.2 hownq HR.out.2.2.1 hmq HR.out.1 hun HR.out.2.1 hul)
  have HKE := Lib.hid (show r.ke.size ≤ 10 from HR.out.2.2.1.ke)
  have HRL := Lib.hid (show r.ts.length ≤ 3 by have := HR.out.1; have := HR.out.2.1; omega)
  clear hun hul hmq hownq hs hg HS4 HG4 HR HB3 HLT3
  have HPT := Lib.hid (LD0.out.p.alloc (.cells (rulC r (.slice T tn tc)) 26)).at
  have hw26 : w2.heap.size + 1 ≤ (((w5.alloc (.cells (rulC r (.slice T tn tc)) 26)).alloc (.cells (rulC q (.slice U un uc)) 26)).alloc (.cells (rulC r (.slice T tn tc)) 26)).heap.size := by
    have := LD0.out.p.lt
    simp at this ⊢
    omega
  have e6 : ((w5.alloc (.cells (rulC r (.slice T tn tc)) 26)).alloc (.cells (rulC q (.slice U un uc)) 26)).heap.size = w5.heap.size + 1 + 1 := by simp
  have HST := Lib.hid (fun (v6 : Value) (w6 : World) (ho6 : OwnT w6 (w2.heap.size + 1) v6 ([] ++ r.ts)) (hg6 : (((w5.alloc (.cells (rulC r (.slice T tn tc)) 26)).alloc (.cells (rulC q (.slice U un uc)) 26)).alloc (.cells (rulC r (.slice T tn tc)) 26)).grownBy w6 (Value.slice none 0 0).ownBlock) (hat6 : v6.ownBlock = (Value.slice none 0 0).ownBlock ∨ v6.ownBlock = some (((w5.alloc (.cells (rulC r (.slice T tn tc)) 26)).alloc (.cells (rulC q (.slice U un uc)) 26)).alloc (.cells (rulC r (.slice T tn tc)) 26)).heap.size) => LE.start LD0.out hg6 (by simpa using ho6) hat6)
  rw [e6] at HST
  clear e6
  go_upto_region 6 with (fail)
  go_cut [] (fun wx => ∃ tu, LE w2 wx w5.heap.size (w5.heap.size + 1) (w5.heap.size + 1 + 1) (0 + 200 + 200) r q r (.slice T tn tc) (.slice U un uc) tu)
  case first =>
    go_wp2_with (refine wpList_append_tsts rfl (.const (.slice none 0 0)) (.tmp 28) rfl (w2.heap.size + 1) (.slice none 0 0) [] rfl (OwnT.nil _ _) _ T tn tc r.ts rfl HPT.out.1 HPT.out.2 (by have := HRL.out; simp; omega) hw26 ?_; intro v6 w6 ho6 hg6 hat6; obtain ⟨x6, le6⟩ := HST.out v6 w6 ho6 hg6 hat6; have q3 := RulB.c3 x6; have f3 := x6.free 3; rcases Joins.ownsRow_forms ho6 with ⟨e7, h7⟩ | ⟨g7, c7, e7⟩ <;> subst e7)
    · go_wp2_with fail
      go_meet
      exact ⟨_, le6⟩
    · go_wp2_with fail
      go_meet
      exact ⟨_, by simpa using le6⟩
  case rest =>
  obtain ⟨tu0, le6⟩ := hcut
  have LE0 := Lib.hid le6
  clear le6 HPT LD0 HST hw26
  go_wp2_with fail
  refine (src_n _ w2.heap.size w2.heap.size (0 + 200 + 200) 7 LE0.out.u.src (by omega) (by omega) (by omega)).mono ?_
  rintro e w7 ⟨y, rfl, y0, y1, hs, hg⟩
  have LE1 := Lib.hid (LE0.out.step hs hg)
  clear hs hg LE0
  generalize w5.heap.size = gr at *
  generalize gr + 1 + 1 = gu at *
  generalize gr + 1 = gq at *
  go_upto_block 0 with (fail)
  go_cut [] (fun wx => ∃ u tu, LE w2 wx gr gq gu 2000 r q u (.slice T tn tc) (.slice U un uc) tu)
  case first =>
    have hy : y = 0 ∨ y = 1 ∨ y = 2 ∨ y = 3 ∨ y = 4 ∨ y = 5 ∨ y = 6 := by omega
    clear y0 y1
    rcases hy with rfl | rfl | rfl | rfl | rfl | rfl | rfl
    · have c7 := RulB.c7 LE1.out.u.cb
      have f7 := LE1.out.u.cb.free 7
      have hz : ¬ 9223372036854775807 < r.ke.size + 1 := by have := HKE.out; omega
      have LE2 := Lib.hid (LE1.out.put (LE1.out.u.ke (r.ke ++ ⟨#[120]⟩) (by have := HKE.out; rw [ByteArray.size_append]; show r.ke.size + 1 ≤ _; omega)))
      go_wp2_with fail
      go_meet
      exact ⟨_, _, LE2.out.more (by omega)⟩
    · have q3 := RulB.c3 LE1.out.u.cb
      have q0 := RulB.c0 LE1.out.u.cb
      have hgc := LE1.out.u.cb.lt
      go_wp2_with fail
      go_region_law
        (first
          | (go_simp; go_at_call 20; refine (src_test _ w2.heap.size w2.heap.size (0 + 200 + 200 + 1) r.li (by exact LE1.out.u.src.drew) (by omega)).mono ?_; rintro e w13 ⟨fd, op, nu, tx, ot, rfl, hnu, htx, hs3, hg3⟩; have st3 := LE1.out.drew.step hs3 hg3; have qA := RulB.c3 st3.u.cb; have qC := RulB.c3 (st3.alloc (.cells (testC fd op nu tx ot) 40)).u.cb; go_simp)
          | (refine step_append_tst (by rfl) (.tmp 42) (.tmp 47) (by rfl) (w2.heap.size + 1) tu0 r.ts (by rfl) (by exact (st3.alloc _).u.own) ⟨w13.heap.size, 0, none⟩ ⟨fd, op, nu, tx, ot⟩ (by rfl) (by exact row_newT w13 (testC fd op nu tx ot) 40) (by have := HRL.out; omega) (by have := st3.u.lt; simp; omega) ?_; intro v4 w4 own4 hg4 hat4; obtain ⟨g4, c4, hv4⟩ := Joins.ownsRow_form own4 (by simp); subst hv4; obtain ⟨cb4, st4⟩ := (st3.alloc (.cells (testC fd op nu tx ot) 40)).app ⟨fd, op, nu, tx, ot⟩ ⟨hnu, htx⟩ (by have := HRL.out; omega) hg4 own4 hat4; have qB := RulB.c3 cb4; have fB := cb4.free 3))
      all_goals
        simp only [List.length_append, List.length_cons, List.length_nil, Nat.zero_add] at st4
        have ST4 := Lib.hid st4
        clear q3 q0 qA qB qC fB cb4 own4 st3 st4 hg3 hs3 hg4 hat4
        go_wp2_with fail
        go_meet
        exact ⟨_, _, ST4.out.more (by omega)⟩
    · have c6 := RulB.c6 LE1.out.u.cb
      have f6 := LE1.out.u.cb.free 6
      have LE2 := Lib.hid (fun v => LE1.out.put (LE1.out.u.pe v))
      go_wp2_with fail
      go_meet
      exact ⟨_, _, (LE2.out _).more (by omega)⟩
    · obtain ⟨k, hk, ek⟩ := xor_any LE1.out.u.siz.ca
      have c2 := RulB.c2 LE1.out.u.cb
      have f2 := LE1.out.u.cb.free 2
      have LE2 := Lib.hid (LE1.out.put (LE1.out.u.ca k hk))
      go_wp2_with fail
      go_meet
      exact ⟨_, _, LE2.out.more (by omega)⟩
    · by_cases hlen : 1 < r.ts.length
      · obtain ⟨g7, c7, e7⟩ := Joins.ownsRow_form LE1.out.u.own (by omega)
        subst e7
        obtain ⟨t0, t1, rest, hts⟩ : ∃ t0 t1 rest, r.ts = t0 :: t1 :: rest := by
          match h : r.ts, hlen with
          | t0 :: t1 :: rest, _ => exact ⟨t0, t1, rest, rfl⟩
        have h0 := LE1.out.ls.2
        obtain ⟨m0, m1, m2, m3, m4, m5, m6, m7, m8, m9⟩ := two_cells LE1.out.u.own hts
        have F := row_free LE1.out.u.own
        have HLN := Lib.hid hts
        have hkk := RulB.c3 LE1.out.u.cb
        have l1 : (1 : Int) < (r.ts.length : Int) := by omega
        have hne7 : gu ≠ g7 := fun e => h0.g3 e.symm
        have l0 : (0 : Int) < (r.ts.length : Int) := by omega
        have hnn : r.ts.length = rest.length + 2 := by rw [hts]; rfl
        have HLU := Lib.hid LE1.out
        have hl2 : 1 < r.ts.length := hlen
        clear hts hlen LE1
        generalize r.ts.length = nn at *
        have HNN := Lib.hid hnn
        clear hnn
        have p0 : 0 < nn := by omega
        have p1 : ¬ nn = 0 := by omega
        have p3 : ¬ (nn : Int) ≤ 0 := by omega
        have LE1 := HLU
        clear HLU
        go_wp2_with fail
        have f0 := F 0
        have f1 := F 1
        have f2 := F 2
        have f3 := F 3
        have f4 := F 4
        have f5 := F 5
        have f6 := F 6
        have f7 := F 7
        have f8 := F 8
        have f9 := F 9
        clear F
        refine wp_region_held_drew (S := fun W => RulB W gu r (.slice (some ⟨g7, 0, none⟩) nn c7)) (by kernel_rfl) LE1.out.drew.u.cb (fun hHeld => ?_)
        refine wpAnyH_take (i := 0) (v := ?_) rfl (by kernel_rfl) (by kernel_rfl) (by kernel_rfl) (fun _ _ _ h => h) (Or.inl ⟨by kernel_rfl, ?_⟩) hHeld ?_
        rotate_left
        · intro w hSw
          go_simp
          first | (with_reducible rfl) | (rw [if_neg (by first | omega | (simp; omega))])
        refine wpAnyH_take (i := 1) (v := ?_) rfl (by kernel_rfl) (by kernel_rfl) (by kernel_rfl) (fun _ _ _ h => h) (Or.inl ⟨by kernel_rfl, ?_⟩) hHeld ?_
        rotate_left
        · intro w hSw
          have k3 := RulB.c3 hSw
          go_simp
          first | (with_reducible rfl) | (rw [if_neg (by first | omega | (simp; omega))])
        refine wpAnyH_take (i := 2) (v := ?_) rfl (by kernel_rfl) (by kernel_rfl) (by kernel_rfl) (fun _ _ _ h => h) (Or.inl ⟨by kernel_rfl, ?_⟩) hHeld ?_
        rotate_left
        · intro w hSw
          go_simp
          first | (with_reducible rfl) | (rw [if_neg (by first | omega | (simp; omega))])
        refine wpAnyH_take (i := 3) (v := ?_) rfl (by kernel_rfl) (by kernel_rfl) (by kernel_rfl) (fun _ _ _ h => h) (Or.inl ⟨by kernel_rfl, ?_⟩) hHeld ?_
        rotate_left
        · intro w hSw
          have k3 := RulB.c3 hSw
          go_simp
          first | (with_reducible rfl) | (rw [if_neg (by first | omega | (simp; omega))])
        refine wpAnyH_take (i := 4) (v := ?_) rfl (by kernel_rfl) (by kernel_rfl) (by kernel_rfl) (fun _ _ _ h => h) (Or.inl ⟨by kernel_rfl, ?_⟩) hHeld ?_
        rotate_left
        · intro w hSw
          go_simp
          first | (with_reducible rfl) | (rw [if_neg (by first | omega | (simp; omega))])
        refine wpAnyH_take (i := 5) (v := ?_) rfl (by kernel_rfl) (by kernel_rfl) (by kernel_rfl) (fun _ _ _ h => h) (Or.inl ⟨by kernel_rfl, ?_⟩) hHeld ?_
        rotate_left
        · intro w hSw
          have k3 := RulB.c3 hSw
          go_simp
          first | (with_reducible rfl) | (rw [if_neg (by first | omega | (simp; omega))])
        refine wpAnyH_take (i := 6) (v := ?_) rfl (by kernel_rfl) (by kernel_rfl) (by kernel_rfl) (fun _ _ _ h => h) (Or.inl ⟨by kernel_rfl, ?_⟩) hHeld ?_
        rotate_left
        · intro w hSw
          go_simp
          first | (with_reducible rfl) | (rw [if_neg (by first | omega | (simp; omega))])
        refine wpAnyH_take (i := 8) (v := ?_) rfl (by kernel_rfl) (by kernel_rfl) (by kernel_rfl) (fun _ _ _ h => h) (Or.inl ⟨by kernel_rfl, ?_⟩) hHeld ?_
        rotate_left
        · intro w hSw
          go_simp
          first | (with_reducible rfl) | (rw [if_neg (by first | omega | (simp; omega))])
        refine wpAnyH_take (i := 9) (v := ?_) rfl (by kernel_rfl) (by kernel_rfl) (by kernel_rfl) (fun _ _ _ h => h) (Or.inl ⟨by kernel_rfl, ?_⟩) hHeld ?_
        rotate_left
        · intro w hSw
          have k3 := RulB.c3 hSw
          go_simp
          first | (with_reducible rfl) | (rw [if_neg (by first | omega | (simp; omega))])
        refine wpAnyH_take (i := 10) (v := ?_) rfl (by kernel_rfl) (by kernel_rfl) (by kernel_rfl) (fun _ _ _ h => h) (Or.inl ⟨by kernel_rfl, ?_⟩) hHeld ?_
        rotate_left
        · intro w hSw
          go_simp
          first | (with_reducible rfl) | (rw [if_neg (by first | omega | (simp; omega))])
        have h5 := ((((h0.put 0 (.int .i64 t1.fd)).put 1 (.int .i64 t1.op)).put 2 (.int .i64 t1.nu)).put 3 (.string t1.tx)).put 4 (.int .i64 t1.ot)
        have h10 := ((((h5.put 5 (.int .i64 t0.fd)).put 6 (.int .i64 t0.op)).put 7 (.int .i64 t0.nu)).put 8 (.string t0.tx)).put 9 (.int .i64 t0.ot)
        have LSE := (h10.drew.le LE1.out (t1 :: t0 :: rest) HNN.out (by rw [HLN.out]; rfl) h10.drew.cb (swap_siz LE1.out.u.siz HLN.out) (swap_num LE1.out.u.num HLN.out)).more (show 0 + 200 + 200 + 1 ≤ 2000 by omega)
        refine wpAnyH_ready (rs := [7, 11]) (by kernel_rfl) (by simp) ?_
        refine AllReadyH.cons rfl (fun K hK => ?_) (AllReadyH.cons rfl (fun K hK => ?_) AllReadyH.nil)
        · go_simp
          refine hK.out _ _ hHeld (fun hHeld => ?_)
          clear hK K
          refine wpAnyH_ready (rs := [11]) (by kernel_rfl) (by simp) ?_
          refine AllReadyH.cons rfl (fun K hK => ?_) AllReadyH.nil
          go_simp
          refine hK.out _ _ hHeld (fun hHeld => ?_)
          clear hK K
          refine wpAnyH_take (i := 12) (v := ?_) rfl (by kernel_rfl) (by kernel_rfl) (by kernel_rfl) (fun _ _ _ h => h) (Or.inl ⟨by kernel_rfl, ?_⟩) hHeld ?_
          rotate_left
          · intro w hSw
            go_simp
            first | (with_reducible rfl) | (rw [if_neg (by first | omega | (simp; omega))])
          refine wpAnyH_ready (rs := [13]) (by kernel_rfl) (by simp) ?_
          refine AllReadyH.cons rfl (fun K hK => ?_) AllReadyH.nil
          go_simp
          have hx5 := h5.drew.cb
          refine hK.out _ _ hx5 (fun hHeld => ?_)
          clear hK K
          clear hx5
          refine wpAnyH_take (i := 14) (v := ?_) rfl (by kernel_rfl) (by kernel_rfl) (by kernel_rfl) (fun _ _ _ h => h) (Or.inl ⟨by kernel_rfl, ?_⟩) hHeld ?_
          rotate_left
          · intro w hSw
            go_simp
            first | (with_reducible rfl) | (rw [if_neg (by first | omega | (simp; omega))])
          refine wpAnyH_ready (rs := [15]) (by kernel_rfl) (by simp) ?_
          refine AllReadyH.cons rfl (fun K hK => ?_) AllReadyH.nil
          go_simp
          have hx10 := h10.drew.cb
          refine hK.out _ _ hx10 (fun hHeld => ?_)
          clear hK K
          clear hx10
          refine wpAnyH_done (by kernel_rfl) ?_ _
          go_wp2_with fail
          go_meet
          exact ⟨_, _, LSE⟩
        · go_simp
          refine hK.out _ _ hHeld (fun hHeld => ?_)
          clear hK K
          refine wpAnyH_ready (rs := [7]) (by kernel_rfl) (by simp) ?_
          refine AllReadyH.cons rfl (fun K hK => ?_) AllReadyH.nil
          go_simp
          refine hK.out _ _ hHeld (fun hHeld => ?_)
          clear hK K
          refine wpAnyH_take (i := 12) (v := ?_) rfl (by kernel_rfl) (by kernel_rfl) (by kernel_rfl) (fun _ _ _ h => h) (Or.inl ⟨by kernel_rfl, ?_⟩) hHeld ?_
          rotate_left
          · intro w hSw
            go_simp
            first | (with_reducible rfl) | (rw [if_neg (by first | omega | (simp; omega))])
          refine wpAnyH_ready (rs := [13]) (by kernel_rfl) (by simp) ?_
          refine AllReadyH.cons rfl (fun K hK => ?_) AllReadyH.nil
          go_simp
          have hx5 := h5.drew.cb
          refine hK.out _ _ hx5 (fun hHeld => ?_)
          clear hK K
          clear hx5
          refine wpAnyH_take (i := 14) (v := ?_) rfl (by kernel_rfl) (by kernel_rfl) (by kernel_rfl) (fun _ _ _ h => h) (Or.inl ⟨by kernel_rfl, ?_⟩) hHeld ?_
          rotate_left
          · intro w hSw
            go_simp
            first | (with_reducible rfl) | (rw [if_neg (by first | omega | (simp; omega))])
          refine wpAnyH_ready (rs := [15]) (by kernel_rfl) (by simp) ?_
          refine AllReadyH.cons rfl (fun K hK => ?_) AllReadyH.nil
          go_simp
          have hx10 := h10.drew.cb
          refine hK.out _ _ hx10 (fun hHeld => ?_)
          clear hK K
          clear hx10
          refine wpAnyH_done (by kernel_rfl) ?_ _
          go_wp2_with fail
          go_meet
          exact ⟨_, _, LSE⟩
      · obtain ⟨T', c', hf, _⟩ := LE1.out.u.form
        subst hf
        have k3 := RulB.c3 LE1.out.u.cb
        have l1 : ¬ (1 : Int) < (r.ts.length : Int) := by omega
        go_wp2_with fail
        go_meet
        exact ⟨_, _, LE1.out.more (by omega)⟩
    · go_wp2_with fail
      go_meet
      exact ⟨_, _, LE1.out.more (by omega)⟩
    · go_wp2_with fail
      go_meet
      exact ⟨_, _, LE1.out.more (by omega)⟩
  case rest =>
  obtain ⟨u, tu, st⟩ := hcut
  clear LE1 HKE HRL
  have e1 := st.r.at.1
  have e2 := st.q.at.1
  subst e1 e2
  obtain ⟨V, vc, hf, htV⟩ := st.u.form
  subst hf
  have LOW := Lib.hid (below_then HB2.out st.r.low)
  have HEQ0 := Lib.hid (show EQS w wc a b r q u A B T U V ca cb tc uc vc w.heap.size (w.heap.size + 1) gr gq gu from
    ⟨⟨Blk.below X1b.out st.r.low, HTA.out _ LOW.out⟩, ⟨Blk.below X2b.out st.r.low, HTB.out _ LOW.out⟩, ⟨st.r.cb, st.r.at.2⟩, ⟨st.q.cb, st.q.at.2⟩, ⟨st.u.cb, htV⟩, LOW.out⟩)
  have HZ := Lib.hid (And.intro st.r.siz.ln (And.intro st.q.siz.ln st.u.siz.ln))
  have VAB := Lib.hid (fun (W : World) (h : EQS w W a b r q u A B T U V ca cb tc uc vc w.heap.size (w.heap.size + 1) gr gq gu) => vequalR a b A B a.ts.length b.ts.length ca cb rfl rfl HSA.out.ln W h.a.t h.b.t)
  have RAB := Lib.hid (fun (W : World) (h : EQS w W a b r q u A B T U V ca cb tc uc vc w.heap.size (w.heap.size + 1) gr gq gu) => requalR a b A B a.ts.length b.ts.length ca cb rfl rfl HSA.out.ln W h.a.t h.b.t)
  have HAA := Lib.hid (fun (W : World) (h : EQS w W a b r q u A B T U V ca cb tc uc vc w.heap.size (w.heap.size + 1) gr gq gu) => vequalR a a A A a.ts.length a.ts.length ca ca rfl rfl HSA.out.ln W h.a.t h.a.t)
  have VRQ := Lib.hid (fun (W : World) (h : EQS w W a b r q u A B T U V ca cb tc uc vc w.heap.size (w.heap.size + 1) gr gq gu) => vequalR r q T U r.ts.length q.ts.length tc uc rfl rfl HZ.out.1 W h.r.t h.q.t)
  have RRQ := Lib.hid (fun (W : World) (h : EQS w W a b r q u A B T U V ca cb tc uc vc w.heap.size (w.heap.size + 1) gr gq gu) => requalR r q T U r.ts.length q.ts.length tc uc rfl rfl HZ.out.1 W h.r.t h.q.t)
  have VRU := Lib.hid (fun (W : World) (h : EQS w W a b r q u A B T U V ca cb tc uc vc w.heap.size (w.heap.size + 1) gr gq gu) => vequalR r u T V r.ts.length u.ts.length tc vc rfl rfl HZ.out.1 W h.r.t h.u.t)
  have RRU := Lib.hid (fun (W : World) (h : EQS w W a b r q u A B T U V ca cb tc uc vc w.heap.size (w.heap.size + 1) gr gq gu) => requalR r u T V r.ts.length u.ts.length tc vc rfl rfl HZ.out.1 W h.r.t h.u.t)
  clear st htV X1b X2b HB2 HTA HTB LOW HN HL2
  go_upto_region 19 with (fail)
  refine wp_region_held_drew (S := fun W => EQS w W a b r q u A B T U V ca cb tc uc vc w.heap.size (w.heap.size + 1) gr gq gu) (by kernel_rfl) (eqs_below HEQ0.out (Below.refl _ _).drew) (fun hHeld => ?_)
  refine wpAnyH_take (i := 0) (v := ?_) rfl (by kernel_rfl) (by kernel_rfl) (by kernel_rfl) (fun _ _ _ h => h) (Or.inl ⟨by kernel_rfl, ?_⟩) hHeld ?_
  rotate_left
  · intro w hSw
    have k0 := RulB.c0 hSw.a.x
    have k1 := RulB.c1 hSw.a.x
    have k2 := RulB.c2 hSw.a.x
    have k3 := RulB.c3 hSw.a.x
    have k4 := RulB.c4 hSw.a.x
    have k5 := RulB.c5 hSw.a.x
    have k6 := RulB.c6 hSw.a.x
    have k7 := RulB.c7 hSw.a.x
    go_simp
    first | (with_reducible rfl) | (rw [if_neg (by first | omega | (simp; omega))])
  refine wpAnyH_take (i := 1) (v := ?_) rfl (by kernel_rfl) (by kernel_rfl) (by kernel_rfl) (fun _ _ _ h => h) (Or.inl ⟨by kernel_rfl, ?_⟩) hHeld ?_
  rotate_left
  · intro w hSw
    have k0 := RulB.c0 hSw.b.x
    have k1 := RulB.c1 hSw.b.x
    have k2 := RulB.c2 hSw.b.x
    have k3 := RulB.c3 hSw.b.x
    have k4 := RulB.c4 hSw.b.x
    have k5 := RulB.c5 hSw.b.x
    have k6 := RulB.c6 hSw.b.x
    have k7 := RulB.c7 hSw.b.x
    go_simp
    first | (with_reducible rfl) | (rw [if_neg (by first | omega | (simp; omega))])
  refine wpAnyH_take (i := 3) (v := ?_) rfl (by kernel_rfl) (by kernel_rfl) (by kernel_rfl) (fun _ _ _ h => h) (Or.inl ⟨by kernel_rfl, ?_⟩) hHeld ?_
  rotate_left
  · intro w hSw
    have k0 := RulB.c0 hSw.a.x
    have k1 := RulB.c1 hSw.a.x
    have k2 := RulB.c2 hSw.a.x
    have k3 := RulB.c3 hSw.a.x
    have k4 := RulB.c4 hSw.a.x
    have k5 := RulB.c5 hSw.a.x
    have k6 := RulB.c6 hSw.a.x
    have k7 := RulB.c7 hSw.a.x
    go_simp
    first | (with_reducible rfl) | (rw [if_neg (by first | omega | (simp; omega))])
  refine wpAnyH_take (i := 4) (v := ?_) rfl (by kernel_rfl) (by kernel_rfl) (by kernel_rfl) (fun _ _ _ h => h) (Or.inl ⟨by kernel_rfl, ?_⟩) hHeld ?_
  rotate_left
  · intro w hSw
    have k0 := RulB.c0 hSw.b.x
    have k1 := RulB.c1 hSw.b.x
    have k2 := RulB.c2 hSw.b.x
    have k3 := RulB.c3 hSw.b.x
    have k4 := RulB.c4 hSw.b.x
    have k5 := RulB.c5 hSw.b.x
    have k6 := RulB.c6 hSw.b.x
    have k7 := RulB.c7 hSw.b.x
    go_simp
    first | (with_reducible rfl) | (rw [if_neg (by first | omega | (simp; omega))])
  refine wpAnyH_ready (rs := [2]) (by kernel_rfl) (by simp) ?_
  refine AllReadyH.cons rfl (fun K hK => ?_) AllReadyH.nil
  go_simp
  go_at_call 29
  refine (VAB.out _ hHeld).mono ?_
  rintro e wz1 ⟨yv, rfl, hy, hb⟩
  have HY := Lib.hid hy
  have hh := eqs_below hHeld hb
  clear hy hb
  go_simp
  refine hK.out _ _ hh (fun hHeld => ?_)
  clear hK K
  clear hh
  refine wpAnyH_ready (rs := [5]) (by kernel_rfl) (by simp) ?_
  refine AllReadyH.cons rfl (fun K hK => ?_) AllReadyH.nil
  go_simp
  go_at_call 26
  refine (RAB.out _ hHeld).mono ?_
  rintro e wz2 ⟨yv', rfl, hy, hb⟩
  obtain rfl : yv' = yv := eq_both hy HY.out
  have hh := eqs_below hHeld hb
  clear hy hb
  go_simp
  refine hK.out _ _ hh (fun hHeld => ?_)
  clear hK K
  clear hh
  refine wpAnyH_take (i := 6) (v := ?_) rfl (by kernel_rfl) (by kernel_rfl) (by kernel_rfl) (fun _ _ _ h => h) (Or.inl ⟨by kernel_rfl, ?_⟩) hHeld ?_
  rotate_left
  · intro w hSw
    go_simp
    first | (with_reducible rfl) | (rw [if_neg (by first | omega | (simp; omega))])
  refine wpAnyH_take (i := 7) (v := ?_) rfl (by kernel_rfl) (by kernel_rfl) (by kernel_rfl) (fun _ _ _ h => h) (Or.inl ⟨by kernel_rfl, ?_⟩) hHeld ?_
  rotate_left
  · intro w hSw
    go_simp
    first | (with_reducible rfl) | (rw [if_neg (by first | omega | (simp; omega))])
  refine wpAnyH_take (i := 8) (v := ?_) rfl (by kernel_rfl) (by kernel_rfl) (by kernel_rfl) (fun _ _ _ h => h) (Or.inl ⟨by kernel_rfl, ?_⟩) hHeld ?_
  rotate_left
  · intro w hSw
    have k0 := RulB.c0 hSw.a.x
    have k1 := RulB.c1 hSw.a.x
    have k2 := RulB.c2 hSw.a.x
    have k3 := RulB.c3 hSw.a.x
    have k4 := RulB.c4 hSw.a.x
    have k5 := RulB.c5 hSw.a.x
    have k6 := RulB.c6 hSw.a.x
    have k7 := RulB.c7 hSw.a.x
    go_simp
    first | (with_reducible rfl) | (rw [if_neg (by first | omega | (simp; omega))])
  refine wpAnyH_take (i := 9) (v := ?_) rfl (by kernel_rfl) (by kernel_rfl) (by kernel_rfl) (fun _ _ _ h => h) (Or.inl ⟨by kernel_rfl, ?_⟩) hHeld ?_
  rotate_left
  · intro w hSw
    have k0 := RulB.c0 hSw.a.x
    have k1 := RulB.c1 hSw.a.x
    have k2 := RulB.c2 hSw.a.x
    have k3 := RulB.c3 hSw.a.x
    have k4 := RulB.c4 hSw.a.x
    have k5 := RulB.c5 hSw.a.x
    have k6 := RulB.c6 hSw.a.x
    have k7 := RulB.c7 hSw.a.x
    go_simp
    first | (with_reducible rfl) | (rw [if_neg (by first | omega | (simp; omega))])
  clear HY
  refine wpAnyH_ready (rs := [10]) (by kernel_rfl) (by simp) ?_
  refine AllReadyH.cons rfl (fun K hK => ?_) AllReadyH.nil
  go_simp
  go_at_call 29
  refine (HAA.out _ hHeld).mono ?_
  rintro e wz3 ⟨yv, rfl, hy, hb⟩
  obtain rfl := hy.2 rfl
  have hh := eqs_below hHeld hb
  clear hy hb
  go_simp
  refine hK.out _ _ hh (fun hHeld => ?_)
  clear hK K
  clear hh
  refine wpAnyH_take (i := 11) (v := ?_) rfl (by kernel_rfl) (by kernel_rfl) (by kernel_rfl) (fun _ _ _ h => h) (Or.inl ⟨by kernel_rfl, ?_⟩) hHeld ?_
  rotate_left
  · intro w hSw
    go_simp
    first | (with_reducible rfl) | (rw [if_neg (by first | omega | (simp; omega))])
  refine wpAnyH_take (i := 12) (v := ?_) rfl (by kernel_rfl) (by kernel_rfl) (by kernel_rfl) (fun _ _ _ h => h) (Or.inl ⟨by kernel_rfl, ?_⟩) hHeld ?_
  rotate_left
  · intro w hSw
    go_simp
    first | (with_reducible rfl) | (rw [if_neg (by first | omega | (simp; omega))])
  refine wpAnyH_take (i := 13) (v := ?_) rfl (by kernel_rfl) (by kernel_rfl) (by kernel_rfl) (fun _ _ _ h => h) (Or.inl ⟨by kernel_rfl, ?_⟩) hHeld ?_
  rotate_left
  · intro w hSw
    have k0 := RulB.c0 hSw.r.x
    have k1 := RulB.c1 hSw.r.x
    have k2 := RulB.c2 hSw.r.x
    have k3 := RulB.c3 hSw.r.x
    have k4 := RulB.c4 hSw.r.x
    have k5 := RulB.c5 hSw.r.x
    have k6 := RulB.c6 hSw.r.x
    have k7 := RulB.c7 hSw.r.x
    go_simp
    first | (with_reducible rfl) | (rw [if_neg (by first | omega | (simp; omega))])
  refine wpAnyH_take (i := 14) (v := ?_) rfl (by kernel_rfl) (by kernel_rfl) (by kernel_rfl) (fun _ _ _ h => h) (Or.inl ⟨by kernel_rfl, ?_⟩) hHeld ?_
  rotate_left
  · intro w hSw
    have k0 := RulB.c0 hSw.q.x
    have k1 := RulB.c1 hSw.q.x
    have k2 := RulB.c2 hSw.q.x
    have k3 := RulB.c3 hSw.q.x
    have k4 := RulB.c4 hSw.q.x
    have k5 := RulB.c5 hSw.q.x
    have k6 := RulB.c6 hSw.q.x
    have k7 := RulB.c7 hSw.q.x
    go_simp
    first | (with_reducible rfl) | (rw [if_neg (by first | omega | (simp; omega))])
  refine wpAnyH_take (i := 16) (v := ?_) rfl (by kernel_rfl) (by kernel_rfl) (by kernel_rfl) (fun _ _ _ h => h) (Or.inl ⟨by kernel_rfl, ?_⟩) hHeld ?_
  rotate_left
  · intro w hSw
    have k0 := RulB.c0 hSw.r.x
    have k1 := RulB.c1 hSw.r.x
    have k2 := RulB.c2 hSw.r.x
    have k3 := RulB.c3 hSw.r.x
    have k4 := RulB.c4 hSw.r.x
    have k5 := RulB.c5 hSw.r.x
    have k6 := RulB.c6 hSw.r.x
    have k7 := RulB.c7 hSw.r.x
    go_simp
    first | (with_reducible rfl) | (rw [if_neg (by first | omega | (simp; omega))])
  refine wpAnyH_take (i := 17) (v := ?_) rfl (by kernel_rfl) (by kernel_rfl) (by kernel_rfl) (fun _ _ _ h => h) (Or.inl ⟨by kernel_rfl, ?_⟩) hHeld ?_
  rotate_left
  · intro w hSw
    have k0 := RulB.c0 hSw.q.x
    have k1 := RulB.c1 hSw.q.x
    have k2 := RulB.c2 hSw.q.x
    have k3 := RulB.c3 hSw.q.x
    have k4 := RulB.c4 hSw.q.x
    have k5 := RulB.c5 hSw.q.x
    have k6 := RulB.c6 hSw.q.x
    have k7 := RulB.c7 hSw.q.x
    go_simp
    first | (with_reducible rfl) | (rw [if_neg (by first | omega | (simp; omega))])
  refine wpAnyH_ready (rs := [15]) (by kernel_rfl) (by simp) ?_
  refine AllReadyH.cons rfl (fun K hK => ?_) AllReadyH.nil
  go_simp
  go_at_call 29
  refine (VRQ.out _ hHeld).mono ?_
  rintro e wz4 ⟨yv, rfl, hy, hb⟩
  have HY := Lib.hid hy
  have hh := eqs_below hHeld hb
  clear hy hb
  go_simp
  refine hK.out _ _ hh (fun hHeld => ?_)
  clear hK K
  clear hh
  refine wpAnyH_ready (rs := [18]) (by kernel_rfl) (by simp) ?_
  refine AllReadyH.cons rfl (fun K hK => ?_) AllReadyH.nil
  go_simp
  go_at_call 26
  refine (RRQ.out _ hHeld).mono ?_
  rintro e wz5 ⟨yv', rfl, hy, hb⟩
  obtain rfl : yv' = yv := eq_both hy HY.out
  have hh := eqs_below hHeld hb
  clear hy hb
  go_simp
  refine hK.out _ _ hh (fun hHeld => ?_)
  clear hK K
  clear hh
  refine wpAnyH_take (i := 19) (v := ?_) rfl (by kernel_rfl) (by kernel_rfl) (by kernel_rfl) (fun _ _ _ h => h) (Or.inl ⟨by kernel_rfl, ?_⟩) hHeld ?_
  rotate_left
  · intro w hSw
    go_simp
    first | (with_reducible rfl) | (rw [if_neg (by first | omega | (simp; omega))])
  refine wpAnyH_take (i := 20) (v := ?_) rfl (by kernel_rfl) (by kernel_rfl) (by kernel_rfl) (fun _ _ _ h => h) (Or.inl ⟨by kernel_rfl, ?_⟩) hHeld ?_
  rotate_left
  · intro w hSw
    go_simp
    first | (with_reducible rfl) | (rw [if_neg (by first | omega | (simp; omega))])
  refine wpAnyH_take (i := 21) (v := ?_) rfl (by kernel_rfl) (by kernel_rfl) (by kernel_rfl) (fun _ _ _ h => h) (Or.inl ⟨by kernel_rfl, ?_⟩) hHeld ?_
  rotate_left
  · intro w hSw
    go_simp
    first | (with_reducible rfl) | (rw [if_neg (by first | omega | (simp; omega))])
  clear HY
  refine wpAnyH_take (i := 22) (v := ?_) rfl (by kernel_rfl) (by kernel_rfl) (by kernel_rfl) (fun _ _ _ h => h) (Or.inl ⟨by kernel_rfl, ?_⟩) hHeld ?_
  rotate_left
  · intro w hSw
    have k0 := RulB.c0 hSw.r.x
    have k1 := RulB.c1 hSw.r.x
    have k2 := RulB.c2 hSw.r.x
    have k3 := RulB.c3 hSw.r.x
    have k4 := RulB.c4 hSw.r.x
    have k5 := RulB.c5 hSw.r.x
    have k6 := RulB.c6 hSw.r.x
    have k7 := RulB.c7 hSw.r.x
    go_simp
    first | (with_reducible rfl) | (rw [if_neg (by first | omega | (simp; omega))])
  refine wpAnyH_take (i := 23) (v := ?_) rfl (by kernel_rfl) (by kernel_rfl) (by kernel_rfl) (fun _ _ _ h => h) (Or.inl ⟨by kernel_rfl, ?_⟩) hHeld ?_
  rotate_left
  · intro w hSw
    have k0 := RulB.c0 hSw.u.x
    have k1 := RulB.c1 hSw.u.x
    have k2 := RulB.c2 hSw.u.x
    have k3 := RulB.c3 hSw.u.x
    have k4 := RulB.c4 hSw.u.x
    have k5 := RulB.c5 hSw.u.x
    have k6 := RulB.c6 hSw.u.x
    have k7 := RulB.c7 hSw.u.x
    go_simp
    first | (with_reducible rfl) | (rw [if_neg (by first | omega | (simp; omega))])
  refine wpAnyH_take (i := 25) (v := ?_) rfl (by kernel_rfl) (by kernel_rfl) (by kernel_rfl) (fun _ _ _ h => h) (Or.inl ⟨by kernel_rfl, ?_⟩) hHeld ?_
  rotate_left
  · intro w hSw
    have k0 := RulB.c0 hSw.r.x
    have k1 := RulB.c1 hSw.r.x
    have k2 := RulB.c2 hSw.r.x
    have k3 := RulB.c3 hSw.r.x
    have k4 := RulB.c4 hSw.r.x
    have k5 := RulB.c5 hSw.r.x
    have k6 := RulB.c6 hSw.r.x
    have k7 := RulB.c7 hSw.r.x
    go_simp
    first | (with_reducible rfl) | (rw [if_neg (by first | omega | (simp; omega))])
  refine wpAnyH_take (i := 26) (v := ?_) rfl (by kernel_rfl) (by kernel_rfl) (by kernel_rfl) (fun _ _ _ h => h) (Or.inl ⟨by kernel_rfl, ?_⟩) hHeld ?_
  rotate_left
  · intro w hSw
    have k0 := RulB.c0 hSw.u.x
    have k1 := RulB.c1 hSw.u.x
    have k2 := RulB.c2 hSw.u.x
    have k3 := RulB.c3 hSw.u.x
    have k4 := RulB.c4 hSw.u.x
    have k5 := RulB.c5 hSw.u.x
    have k6 := RulB.c6 hSw.u.x
    have k7 := RulB.c7 hSw.u.x
    go_simp
    first | (with_reducible rfl) | (rw [if_neg (by first | omega | (simp; omega))])
  refine wpAnyH_ready (rs := [24]) (by kernel_rfl) (by simp) ?_
  refine AllReadyH.cons rfl (fun K hK => ?_) AllReadyH.nil
  go_simp
  go_at_call 29
  refine (VRU.out _ hHeld).mono ?_
  rintro e wz6 ⟨yv, rfl, hy, hb⟩
  have HY := Lib.hid hy
  have hh := eqs_below hHeld hb
  clear hy hb
  go_simp
  refine hK.out _ _ hh (fun hHeld => ?_)
  clear hK K
  clear hh
  refine wpAnyH_ready (rs := [27]) (by kernel_rfl) (by simp) ?_
  refine AllReadyH.cons rfl (fun K hK => ?_) AllReadyH.nil
  go_simp
  go_at_call 26
  refine (RRU.out _ hHeld).mono ?_
  rintro e wz7 ⟨yv', rfl, hy, hb⟩
  obtain rfl : yv' = yv := eq_both hy HY.out
  have hh := eqs_below hHeld hb
  clear hy hb
  go_simp
  refine hK.out _ _ hh (fun hHeld => ?_)
  clear hK K
  clear hh
  refine wpAnyH_take (i := 28) (v := ?_) rfl (by kernel_rfl) (by kernel_rfl) (by kernel_rfl) (fun _ _ _ h => h) (Or.inl ⟨by kernel_rfl, ?_⟩) hHeld ?_
  rotate_left
  · intro w hSw
    go_simp
    first | (with_reducible rfl) | (rw [if_neg (by first | omega | (simp; omega))])
  refine wpAnyH_take (i := 29) (v := ?_) rfl (by kernel_rfl) (by kernel_rfl) (by kernel_rfl) (fun _ _ _ h => h) (Or.inl ⟨by kernel_rfl, ?_⟩) hHeld ?_
  rotate_left
  · intro w hSw
    go_simp
    first | (with_reducible rfl) | (rw [if_neg (by first | omega | (simp; omega))])
  refine wpAnyH_take (i := 30) (v := ?_) rfl (by kernel_rfl) (by kernel_rfl) (by kernel_rfl) (fun _ _ _ h => h) (Or.inl ⟨by kernel_rfl, ?_⟩) hHeld ?_
  rotate_left
  · intro w hSw
    go_simp
    first | (with_reducible rfl) | (rw [if_neg (by first | omega | (simp; omega))])
  refine wpAnyH_ready (rs := [31]) (by kernel_rfl) (by simp) ?_
  refine AllReadyH.cons rfl (fun K hK => ?_) AllReadyH.nil
  go_simp
  go_at_call 11
  refine (HAW.out _ hHeld.low).mono ?_
  rintro e wl ⟨rfl, hb⟩
  have hh := eqs_below hHeld hb
  clear hb
  go_simp
  refine hK.out _ _ hh (fun hHeld => ?_)
  clear hK K
  clear hh
  refine wpAnyH_take (i := 32) (v := ?_) rfl (by kernel_rfl) (by kernel_rfl) (by kernel_rfl) (fun _ _ _ h => h) (Or.inl ⟨by kernel_rfl, ?_⟩) hHeld ?_
  rotate_left
  · intro w hSw
    go_simp
    first | (with_reducible rfl) | (rw [if_neg (by first | omega | (simp; omega))])
  refine wpAnyH_take (i := 33) (v := ?_) rfl (by kernel_rfl) (by kernel_rfl) (by kernel_rfl) (fun _ _ _ h => h) (Or.inl ⟨by kernel_rfl, ?_⟩) hHeld ?_
  rotate_left
  · intro w hSw
    go_simp
    first | (with_reducible rfl) | (rw [if_neg (by first | omega | (simp; omega))])
  refine wpAnyH_done (by kernel_rfl) ?_ _
  go_wp2_with fail
  go_ret
  exact ⟨rfl, hHeld.low⟩
end Go.Proofs.YtbbihfafkpniiaaGreatDoor
/- The walk of RuleEquals, with what the row lists. -/

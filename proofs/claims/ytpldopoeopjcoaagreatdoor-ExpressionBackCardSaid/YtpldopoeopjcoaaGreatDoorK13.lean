/- Texts of one proof, laid together. -/
import Derived.Test.YtpldopoeopjcoaaGreatDoorK12
import Derived.Test.YtpldopoeopjcoaaGreatDoorK10
import Derived.Defers
import Derived.Recover
import Derived.Test.YtpldopoeopjcoaaGreatDoorK05
import Derived.Deep.CutBlock
import Derived.Deep.DeepCutAuto
/- list of package expression's parser at p.and; or. -/
namespace Go.Proofs.YtpldopoeopjcoaaGreatDoor
open Go.RowKit
attribute [local irreducible] moreE listE joinE
set_option maxRecDepth 100000 in
set_option maxHeartbeats 8000000 in
theorem vlistA (f : List Tk → Option (Ex × List Tk)) (hf : ∀ ts, Less (f ts) ts.length) (n : Nat) (g : Nat)
    (hR : ∀ (ts : List Tk) (w : World), ts.length ≤ n → TkO w g ts → Calls Tryz.prog 67 #[.pointer (some ⟨g, 0, none⟩)] w (XPost (f ts) w g))
    (op : Int) (wd : ByteArray) (ts : List Tk) (hn : ts.length ≤ n) (w : World) (ht : TkO w g ts) :
    Calls Tryz.prog 66 #[.pointer (some ⟨g, 0, none⟩), .int .i64 op, .string wd, .func (.func 67) #[.pointer (some ⟨g, 0, none⟩)] #[]] w (XPost (listE f op wd ts) w g) := by
  have hgl := ht.lt
  have T0 := Lib.hid (ht.alloc (.cells xZ 25))
  have R0 := Lib.hid (Blk.new w xZ 25)
  have G0 := Lib.hid (only_alloc (World.grownBy.refl w (some g)) (.cells xZ 25))
  have HR := Lib.hid hR
  have HF := Lib.hid hf
  have HN := Lib.hid hn
  have HSZ := Lib.hid (show (w.alloc (.cells xZ 25)).heap.size = w.heap.size + 1 by simp)
  have HTL := Lib.hid ht.toks.1
  clear ht hR hf hn
  go_enter Tryz.func66, Tryz.ntmps66
  go_wp2_with fail
  refine (HR.out ts _ HN.out T0.out).mono ?_
  intro e w1 hp
  cases ho : f ts with
  | none =>
    rw [ho] at hp
    obtain ⟨rfl, hg1⟩ := hp
    rw [list_none ho]
    exact ⟨rfl, rfl, only_trans G0.out hg1⟩
  | some p =>
  obtain ⟨x, r⟩ := p
  rw [ho] at hp
  obtain ⟨m, rfl, hx, ht1, hg1⟩ := hp
  have hl1 := HF.out ts x r ho
  have HRN := Lib.hid (show r.length < n by have := HN.out; omega)
  have HRM := Lib.hid (show 1 + r.length ≤ 1000000 by have := HTL.out; omega)
  have HLE := Lib.hid (list_start (op := op) (wd := wd) ho)
  have L1 := Lib.hid (LiS.first hgl (only_trans G0.out hg1) (Blk.grown R0.out hg1 (fun e => by injection e with e; omega)) (hx.keep (fun _ _ => rfl) (fun i hi => ⟨by have := hi.1; have := HSZ.out; omega, hi.2⟩)) ht1)
  clear hx ht1 hg1 ho hl1 T0 R0 G0
  go_wp2_with fail
  go_loopw [9] (fun v wr => ∃ (l : List Ex) (ms : List Xe) (r' : List Tk), LiS w wr g v l ms r' ∧ Hid (1 ≤ l.length) ∧ Hid (r'.length < n) ∧ Hid (l.length + r'.length ≤ 1000000) ∧ Hid (listE f op wd ts = conE op l (moreE f wd r'.length r'))) (fun v _ => 1000001 - slN v)
  case atStart => exact ⟨[x], [m], r, L1.out, Lib.hid (Nat.le_refl 1), HRN, HRM, HLE⟩
  case round =>
    obtain ⟨l, ms, r', hL, hl1, hrn, hlr, hE⟩ := hrel
    generalize u9 = v at *
    have K := Lib.hid hL
    clear hL
    go_wp2_with fail
    refine (vtakes r' 1 wd _ g K.out.tk.1).mono ?_
    rintro e w1 ⟨rfl, ht, hg⟩
    have K1 := Lib.hid (K.out.step hg (K.out.tk.step ht (K.out.tk.toks.left 1 wd) hg))
    clear ht hg K
    cases hb : hitB r' 1 wd
    case false =>
      have K2 := Lib.hid (show LiS w w1 g v l ms r' by have := K1.out; rw [leftT_no hb] at this; exact this)
      have HJ := Lib.hid (hE.out.trans (con_stop HF.out hb))
      clear hE K1
      obtain ⟨A, c, rfl, hat⟩ := K2.out.own.at
      by_cases h1 : ms.length = 1
      · obtain ⟨m0, rfl⟩ := List.length_eq_one_iff.1 h1
        obtain ⟨x0, rfl⟩ := List.length_eq_one_iff.1 (show l.length = 1 by rw [← K2.out.ln]; exact h1)
        obtain ⟨ad, rfl, hab, hcx⟩ := hat 0 (by simp)
        obtain ⟨s0, s1, s2, s3, s4, s5, s6⟩ := x_cells (a := ad) (m := m0) hcx
        have HX := Lib.hid (K2.out.ps 0 (by simp) (by simp))
        have RB := Lib.hid K2.out.res
        have HJ2 := Lib.hid (show listE f op wd ts = some (x0, r') by rw [HJ.out]; unfold joinE; rfl)
        clear HJ hat hcx h1
        simp only [List.length_singleton]
        go_wp2_with ((with_reducible refine store_blk ?_ 25 (.tmp 8) (.tmp 26) ?_ RB.out (xC m0) ?_ ?_ ?_ ?_ ?_ ?_); (iterate 4 rfl); (exact x_sz _); rfl; (exact x_one _))
        refine bodyPost_ret (x_ret (fn := Tryz.f66) rfl _ _ w.heap.size m0 rfl (Blk.row RB.out _)) rfl ?_
        rw [HJ2.out]
        refine ⟨m0, rfl, HX.out.keep (fun i hi => setRow_other _ _ _ _ (by have := hi.1; omega)) (fun i hi => ⟨by have := hi.1; omega, by rw [setRow_size]; exact hi.2.1⟩), K2.out.tk.far (row := some w.heap.size) (row_only _ _ _) (fun k e => by injection e with e; omega), only_far K2.out.only (row_only _ _ _) (fun k e => by injection e with e; omega)⟩
      · have q1 : ((ms.length : Int) == 1) = false := by simp; omega
        have RB := Lib.hid K2.out.res
        have HJ2 := Lib.hid (show listE f op wd ts = some (.mk op 0 0 0 ⟨#[]⟩ ⟨#[]⟩ l, r') by
          rw [HJ.out]
          exact join_many (by have := K2.out.ln; omega))
        have HX := Lib.hid (show ExA (w1.setRow w.heap.size (xC ⟨op, 0, 0, 0, ⟨#[]⟩, ⟨#[]⟩, A, ms.length, c⟩)) (Frs w (w1.setRow w.heap.size (xC ⟨op, 0, 0, 0, ⟨#[]⟩, ⟨#[]⟩, A, ms.length, c⟩))) (.mk op 0 0 0 ⟨#[]⟩ ⟨#[]⟩ l) ⟨op, 0, 0, 0, ⟨#[]⟩, ⟨#[]⟩, A, ms.length, c⟩ by
          have hln := K2.out.ln
          have hs : ∀ i, w.heap.size + 1 ≤ i ∧ i < w1.heap.size → Frs w (w1.setRow w.heap.size (xC ⟨op, 0, 0, 0, ⟨#[]⟩, ⟨#[]⟩, A, ms.length, c⟩)) i := fun i hi => ⟨by omega, by rw [setRow_size]; exact hi.2⟩
          have hk : ∀ i, w.heap.size + 1 ≤ i ∧ i < w1.heap.size → (w1.setRow w.heap.size (xC ⟨op, 0, 0, 0, ⟨#[]⟩, ⟨#[]⟩, A, ms.length, c⟩)).heap[i]? = w1.heap[i]? := fun i hi => setRow_other _ _ _ _ (by omega)
          generalize w1.setRow w.heap.size (xC ⟨op, 0, 0, 0, ⟨#[]⟩, ⟨#[]⟩, A, ms.length, c⟩) = W at hs hk ⊢
          have ha : AtS w1 (fun i => w.heap.size + 1 ≤ i ∧ i < w1.heap.size) A ms := hat.toS (fun ad e hb => ⟨by
            subst e
            exact own_ge (n := 0) K2.out.own (by have := hl1.out; omega), hb⟩)
          rw [hln]
          exact ExA.mk op 0 0 0 ⟨#[]⟩ ⟨#[]⟩ l A c ms hln (by have := hlr.out; have := hlr.out; omega) ⟨by show 0 ≤ maxLen; omega, by show 0 ≤ maxLen; omega⟩ (ha.keep hk hs) (fun k h1 h2 => (K2.out.ps k h1 h2).keep (fun i hi => hk i ⟨hi.1, hi.2.1⟩) (fun i hi => hs i ⟨hi.1, hi.2.1⟩)))
        clear HJ hat h1
        go_wp2_with ((with_reducible refine store_blk ?_ 25 (.tmp 8) (.tmp 29) ?_ RB.out (xC ⟨op, 0, 0, 0, ⟨#[]⟩, ⟨#[]⟩, A, ms.length, c⟩) ?_ ?_ ?_ ?_ ?_ ?_); (iterate 4 rfl); (exact x_sz _); rfl; (exact x_one _))
        refine bodyPost_ret (x_ret (fn := Tryz.f66) rfl _ _ w.heap.size ⟨op, 0, 0, 0, ⟨#[]⟩, ⟨#[]⟩, A, ms.length, c⟩ rfl (Blk.row RB.out _)) rfl ?_
        rw [HJ2.out]
        exact ⟨_, rfl, HX.out, K2.out.tk.far (row := some w.heap.size) (row_only _ _ _) (fun k e => by injection e with e; omega), only_far K2.out.only (row_only _ _ _) (fun k e => by injection e with e; omega)⟩
    case true =>
      have hlt := hit_pos hb
      have HT := Lib.hid (show TkO w1 g r'.tail by have := K1.out.tk; rw [leftT_yes hb] at this; exact this)
      have HTN := Lib.hid (show r'.tail.length ≤ n by have := hrn.out; omega)
      have HVB := Lib.hid (K1.out.own.lt)
      have HRL := Lib.hid K1.out.res.lt
      have HLT := Lib.hid hlt
      clear hlt
      go_wp2_with fail
      refine (HR.out r'.tail _ HTN.out HT.out).mono ?_
      intro e w2 hp
      cases ho : f r'.tail with
      | none =>
        rw [ho] at hp
        obtain ⟨rfl, hg1⟩ := hp
        have HP : XPost (listE f op wd ts) w g (.panicked [{ v := feV, recovered := false }]) w2 := by
          rw [hE.out, con_none HF.out hb ho]
          exact ⟨rfl, only_trans K1.out.only hg1⟩
        exact ⟨rfl, HP⟩
      | some p =>
      obtain ⟨x2, r2⟩ := p
      rw [ho] at hp
      obtain ⟨m2, rfl, hx, ht2, hg2⟩ := hp
      have hl2 := HF.out _ x2 r2 ho
      have HRN := Lib.hid (show r2.length < n by have := HTN.out; omega)
      have HRM := Lib.hid (show (l ++ [x2]).length + r2.length ≤ 1000000 by have := hlr.out; have := HLT.out; simp; omega)
      have HLE := Lib.hid (hE.out.trans (con_more (l := l) (op := op) HF.out hb ho))
      have K2 := Lib.hid (K1.out.step hg2 ht2)
      have HX := Lib.hid (show ExA w2 (Fr2 w.heap.size w2 v) x2 m2 from hx.keep (fun _ _ => rfl) (fun i hi => ⟨by have := hi.1; have := HRL.out; omega, hi.2, fun e => by have := HVB.out i e; have := hi.1; omega⟩))
      have K3 := Lib.hid (K2.out.alloc (.cells (xC m2) 25))
      have HX3 := Lib.hid (show ExA (w2.alloc (.cells (xC m2) 25)) (Fr2 w.heap.size (w2.alloc (.cells (xC m2) 25)) v) x2 m2 from HX.out.keep (fun i hi => ((Below.refl w2.heap.size w2).alloc (Nat.le_refl _) _).block i hi.2.1) (fun i hi => ⟨hi.1, by have := hi.2.1; simp; omega, hi.2.2⟩))
      have RW := Lib.hid (row_newE EX w2 (xC m2) 25 m2 rfl (Nat.lt_succ_self w2.heap.size))
      have hbase : w.heap.size + 1 ≤ (w2.alloc (.cells (xC m2) 25)).heap.size := by have := K3.out.res.lt; exact this
      have HLL := Lib.hid (show ms.length + 1 ≤ 1000000 by have := hlr.out; have := HLT.out; have := K3.out.ln; omega)
      clear hx ht2 hg2 ho hl2 K1 K2 HX hE HVB HT
      go_wp2_with (refine wpList_append_el EX rfl (.tmp 16) (.tmp 19) rfl (w.heap.size + 1) v ms rfl K3.out.own (w2.heap.size + 1) (some ⟨w2.heap.size, 0, none⟩) 1 1 [m2] rfl rfl RW.out (by rw [List.length_singleton]; exact HLL.out) hbase ?_; intro v6 w6 ho6 hg6 hat6)
      have K4 := Lib.hid (K3.out.app HX3.out ho6 hg6 hat6)
      have HSV := Lib.hid (show slN v6 = slN v + 1 by
        obtain ⟨A6, c6, rfl, _⟩ := ho6.at
        obtain ⟨A7, c7, rfl, _⟩ := K3.out.own.at
        simp [slN])
      have HSW := Lib.hid (show slN v ≤ 999999 by
        obtain ⟨A7, c7, rfl, _⟩ := K3.out.own.at
        have := HLL.out
        show ms.length ≤ 999999
        omega)
      clear ho6 hg6 hat6
      go_wp2_with fail
      go_roundw
      case rel => exact ⟨l ++ [x2], ms ++ [m2], r2, K4.out, Lib.hid (by simp), HRN, HRM, HLE⟩
      case measure => have := HSV.out; have := HSW.out; omega
set_option maxHeartbeats 4000000 in
theorem vor (n : Nat) (g : Nat)
    (hR : ∀ (ts : List Tk) (w : World), ts.length ≤ n → TkO w g ts → Calls Tryz.prog 67 #[.pointer (some ⟨g, 0, none⟩)] w (XPost (andE n ts) w g))
    (ts : List Tk) (w : World) (hn : ts.length ≤ n) (ht : TkO w g ts) :
    Calls Tryz.prog 44 #[.pointer (some ⟨g, 0, none⟩)] w (XPost (orE n ts) w g) := by
  have hgl := ht.lt
  have R0 := Lib.hid (Blk.new w xZ 25)
  have G0 := Lib.hid (only_alloc (World.grownBy.refl w (some g)) (.cells xZ 25))
  have HSZ := Lib.hid (show (w.alloc (.cells xZ 25)).heap.size = w.heap.size + 1 by simp)
  have HL := Lib.hid (vlistA (andE n) (and_less n) n g hR 2 sOr ts hn _ (ht.alloc (.cells xZ 25)))
  have HE := Lib.hid (show orE n ts = listE (andE n) 2 sOr ts from rfl)
  have hmf : ∀ (fn : Fn) (first cap : Array Value) (w : World), (Instr.makeFunc fn first cap).run Tryz.prog w = .ok (.func fn first cap) w := fun _ _ _ _ => rfl
  clear ht hR hn
  go_enter Tryz.func44, Tryz.ntmps44
  go_wp2_with fail
  refine HL.out.mono ?_
  intro e w1 hp
  cases ho : listE (andE n) 2 sOr ts with
  | none =>
    rw [ho] at hp
    obtain ⟨rfl, hg1⟩ := hp
    have HP : XPost (orE n ts) w g (.panicked [{ v := feV, recovered := false }]) w1 := by
      rw [HE.out, ho]
      exact ⟨rfl, only_trans G0.out hg1⟩
    exact ⟨rfl, HP⟩
  | some p =>
  obtain ⟨x, r⟩ := p
  rw [ho] at hp
  obtain ⟨m, rfl, hx, ht1, hg1⟩ := hp
  have HO := Lib.hid (HE.out.trans ho)
  clear HE HL ho
  have RB := Lib.hid (Blk.grown R0.out hg1 (fun e => by injection e with e; omega))
  have P := Lib.hid (wrap_post (cs := xC m) HSZ.out hgl hx ht1 (only_trans G0.out hg1))
  clear hx ht1 hg1 R0 G0 hmf
  go_wp2_with ((with_reducible refine store_blk ?_ 25 (.tmp 2) (.tmp 6) ?_ RB.out (xC m) ?_ ?_ ?_ ?_ ?_ ?_); (iterate 4 rfl); (exact x_sz _); rfl; (exact x_one _))
  refine bodyPost_ret (x_ret (fn := Tryz.f44) rfl _ _ w.heap.size m rfl (Blk.row RB.out _)) rfl ?_
  rw [HO.out]
  exact ⟨m, rfl, P.out⟩
end Go.Proofs.YtpldopoeopjcoaaGreatDoor
/- or of package expression's parser, of any tokens. -/
namespace Go.Proofs.YtpldopoeopjcoaaGreatDoor
open Go.RowKit
theorem vfactor (g : Nat) : ∀ (n : Nat) (ts : List Tk) (w : World), ts.length ≤ n → TkO w g ts → Calls Tryz.prog 84 #[.pointer (some ⟨g, 0, none⟩)] w (XPost (facE n ts) w g)
  | 0, ts, w, hn, ht => by
    have : ts = [] := List.eq_nil_of_length_eq_zero (Nat.le_zero.1 hn)
    subst this
    exact vfac_step 0 g [] (fun ts' w h _ => absurd h (Nat.not_lt_zero _)) (fun ts' w h _ => absurd h (Nat.not_lt_zero _)) w ht
  | n + 1, ts, w, hn, ht =>
    vfac_step n g ts (fun ts' w h ht' => vfactor g n ts' w (by omega) ht') (fun ts' w h ht' => vor n g (fun t1 w1 h1 k1 => vand n g (fun t2 w2 h2 k2 => vfactor g n t2 w2 h2 k2) t1 w1 h1 k1) ts' w (by omega) ht') w ht
theorem vorE (g : Nat) (n : Nat) (ts : List Tk) (w : World) (hn : ts.length ≤ n) (ht : TkO w g ts) : Calls Tryz.prog 44 #[.pointer (some ⟨g, 0, none⟩)] w (XPost (orE n ts) w g) :=
  vor n g (fun t1 w1 h1 k1 => vand n g (fun t2 w2 h2 k2 => vfactor g n t2 w2 h2 k2) t1 w1 h1 k1) ts w hn ht
end Go.Proofs.YtpldopoeopjcoaaGreatDoor
/- What parse of package expression defers. -/
namespace Go.Proofs.YtpldopoeopjcoaaGreatDoor
open Go.RowKit
set_option maxRecDepth 100000 in
set_option maxHeartbeats 4000000 in
theorem prs_caught (a b : Nat) (m : Xe) (n : Int) (u : TypeId) (pv : Value) (older : List PanicEntry) (w : World) (hA : Blk w a 25 (xC m)) (hB : Blk w b 30 #[.int .i64 n]) (hab : b ≠ a) :
    CallsD Tryz.prog 42 #[.pointer (some ⟨a, 0, none⟩), .pointer (some ⟨b, 0, none⟩)] (.panicking ({ v := .iface u pv, recovered := false } :: older)) w fun e u' w' =>
      e = .returned (.tuple #[]) ∧ u' = .panicking ({ v := .iface u pv, recovered := true } :: older) ∧ w' = (w.setRow a xZ).setCell ⟨b, 0, none⟩ (.int .i64 381) := by
  have HA := Lib.hid hA
  have c1 := (hB.row_other xZ hab).cell 0
  have f1 := (hB.row_other xZ hab).free 0
  refine callsD_of_wpS Tryz.func42 rfl fun c₀ cs hu => ?_
  apply wpS_seq
  apply wpS_region
  simp [wpOpsS, go_sem, recoverD, hu, Tryz.ntmps42, Exit.thenS]
  change Code.wpS Tryz.prog _ _ { tmps := #[.pointer (some ⟨a, 0, none⟩), .pointer (some ⟨b, 0, none⟩), .iface u pv, .iface u pv, undef, undef, undef], defers := [] } _ w
  refine wpS_of_wp ?_
  go_wp2_with ((with_reducible refine store_blk ?_ 25 (.tmp 0) (.tmp 6) ?_ HA.out xZ ?_ ?_ ?_ ?_ ?_ ?_); (iterate 4 rfl); (exact x_sz ⟨0, 0, 0, 0, ⟨#[]⟩, ⟨#[]⟩, none, 0, 0⟩); rfl; (exact x_one ⟨0, 0, 0, 0, ⟨#[]⟩, ⟨#[]⟩, none, 0, 0⟩))
  simp [bodyPostS, results]
theorem prs_idle (a b : Nat) (w : World) :
    CallsD Tryz.prog 42 #[.pointer (some ⟨a, 0, none⟩), .pointer (some ⟨b, 0, none⟩)] .returning w fun e u' w' => e = .returned (.tuple #[]) ∧ u' = .returning ∧ w' = w := by
  refine callsD_of_wpS Tryz.func42 rfl fun c₀ cs hu => ?_
  apply wpS_seq
  apply wpS_region
  simp [wpOpsS, go_sem, recoverD, hu, Tryz.ntmps42, Exit.thenS]
  change Code.wpS Tryz.prog _ _ { tmps := #[.pointer (some ⟨a, 0, none⟩), .pointer (some ⟨b, 0, none⟩), .nilIface, .nilIface, undef, undef, undef], defers := [] } _ w
  refine wpS_of_wp ?_
  go_wp2_with fail
  cases c₀
  simp_all [bodyPostS, results]
end Go.Proofs.YtpldopoeopjcoaaGreatDoor
/- parse of package expression, any text. -/
namespace Go.Proofs.YtpldopoeopjcoaaGreatDoor
open Go.RowKit
def PrPost (o : Option Ex) (w : World) (e : Ending) (w' : World) : Prop :=
  match o with
  | some x => ∃ m, e = .returned (.tuple #[.agg (xC m), .int .i64 0]) ∧ ExA w' (Frs w w') x m ∧ Below w.heap.size w w'
  | none => e = .returned (.tuple #[.agg xZ, .int .i64 381]) ∧ Below w.heap.size w w'
abbrev zX : Xe := ⟨0, 0, 0, 0, ⟨#[]⟩, ⟨#[]⟩, none, 0, 0⟩
theorem prs_ret {fn : Func} (h : fn.results = #[.cell 2 25, .cell 3 30]) (tmps : Array Value) (w : World) (a b : Nat) (m : Xe) (n : Int) (h2 : tmps.getD 2 undef = .pointer (some ⟨a, 0, none⟩)) (h3 : tmps.getD 3 undef = .pointer (some ⟨b, 0, none⟩))
    (ha : Blk w a 25 (xC m)) (hb : Blk w b 30 #[.int .i64 n]) :
    (results fn tmps).run Tryz.prog w = .ok (.tuple #[.agg (xC m), .int .i64 n]) w := by
  have h2' : tmps[2]?.getD undef = .pointer (some ⟨a, 0, none⟩) := by simpa using h2
  have h3' : tmps[3]?.getD undef = .pointer (some ⟨b, 0, none⟩) := by simpa using h3
  have c0 := hb.cell 0
  have l3 : (loadVar 30 ⟨b, 0, none⟩).run Tryz.prog w = .ok (.int .i64 n) w := by
    go_simp
  simp [results, h, h2', h3', asAddr, run_loadVar_row w a 25 25 (xC m) (0, 0) _ ha Tryz.underlying25 rfl (x_sz m), l3]
theorem own_len {α : Type} {E : El α} {w : World} {base n c : Nat} {A : Option Addr} {L : List α} (h : OwnE E w base (.slice A n c) L) : n ≤ c := by
  rcases h.2 with ⟨e, h0⟩ | ⟨g, cap, cur, e, _, _, h1, _⟩
  · injection e with _ e1 e2
    rw [e1]; exact Nat.zero_le _
  · injection e with _ e1 e2
    rw [e2, e1]; exact h1
/-- The parser that parse makes. -/
theorem tk_made {w1 : World} {A : Option Addr} {c base : Nat} {ts : List Tk} (h : OwnE ETk w1 base (.slice A ts.length c) ts) (ht : TOk ts) (hc : c ≤ maxLen) (htab : Tab w1) : TkO (w1.alloc (.cells #[.slice A ts.length c] 79)) w1.heap.size ts := by
  obtain ⟨A1, c1, e, hat⟩ := h.at
  injection e with e1 _ e2
  subst e1
  refine ⟨⟨A, c, Blk.new w1 _ _, own_len h, hc, hat.keep ((Below.refl w1.heap.size w1).alloc (Nat.le_refl _) _) (Nat.le_refl _)⟩, ht, htab.below ((Below.refl w1.heap.size w1).alloc (Nat.le_refl _) _) (Nat.le_refl _), Glob.lt htab⟩
theorem whole_none {o : Option (Ex × List Tk)} (h : o = none) : wholeE o = none := by rw [h]; rfl
theorem whole_more {o : Option (Ex × List Tk)} {x : Ex} {t : Tk} {r : List Tk} (h : o = some (x, t :: r)) : wholeE o = none := by rw [h]; rfl
theorem whole_some {o : Option (Ex × List Tk)} {x : Ex} (h : o = some (x, [])) : wholeE o = some x := by rw [h]; rfl
attribute [local irreducible] scanE orE
set_option maxRecDepth 100000 in
set_option maxHeartbeats 8000000 in
theorem vparse38 (s : ByteArray) (hs : s.size ≤ 1000) (w : World) (hE : Env w) :
    Calls Tryz.prog 25 #[.string s] w (PrPost (parseE s.data.toList) w) := by
  have hmf : ∀ (fn : Fn) (first cap : Array Value) (w : World), (Instr.makeFunc fn first cap).run Tryz.prog w = .ok (.func fn first cap) w := fun _ _ _ _ => rfl
  have R0 := Lib.hid ((Blk.new w xZ 25).alloc (.cells #[.int .i64 0] 30))
  have E0 := Lib.hid (show Blk ((w.alloc (.cells xZ 25)).alloc (.cells #[.int .i64 0] 30)) (w.heap.size + 1) 30 #[.int .i64 0] by
    have := Blk.new (w.alloc (.cells xZ 25)) #[.int .i64 0] 30
    simpa using this)
  have B0 := Lib.hid (((Below.refl w.heap.size w).alloc (Nat.le_refl _) (.cells xZ 25)).alloc (by simp) (.cells #[.int .i64 0] 30))
  have HSC := Lib.hid (vscan s hs _ (hE.below B0.out))
  have HTB := Lib.hid (fun (W : World) (h : Below w.heap.size w W) => (hE.below h).tab)
  have HPE := Lib.hid (show parseE s.data.toList = match scanE s.data.toList with | none => none | some ts => wholeE (orE ts.length ts) from rfl)
  clear hE hs
  go_enter_defers Tryz.func25, Tryz.ntmps25
  go_wp2_with fail
  refine HSC.out.mono ?_
  intro e w1 hp
  cases ho : scanE s.data.toList with
  | none =>
    rw [ho] at hp
    obtain ⟨rfl, hb⟩ := hp
    have R1 := R0.out.below hb
    have E1 := E0.out.below hb
    have B1 := below_then B0.out hb
    have HN : parseE s.data.toList = none := by rw [HPE.out, ho]
    refine leaves_cons (f := 42) (args := #[.pointer (some ⟨w.heap.size, 0, none⟩), .pointer (some ⟨w.heap.size + 1, 0, none⟩)]) (by simp) (by simp [go_sem]) ?_
    refine (prs_caught w.heap.size (w.heap.size + 1) zX 0 _ _ [] _ R1 E1 (by omega)).mono ?_
    rintro e u' w'' ⟨rfl, rfl, rfl⟩
    refine ⟨_, prs_ret (fn := Tryz.f25) rfl _ _ w.heap.size (w.heap.size + 1) zX 381 rfl rfl (Blk.put_other (Blk.row R1 xZ) _ (by show w.heap.size ≠ w.heap.size + 1; omega)) (Blk.put (Blk.row_other E1 xZ (by omega)) 0 _), ?_⟩
    rw [HN]
    exact ⟨rfl, (below_row B1 (Nat.le_refl _) xZ).setCell (by show w.heap.size ≤ w.heap.size + 1; omega) _⟩
  | some ts =>
  rw [ho] at hp
  obtain ⟨A, c, rfl, hown, htok, hcap, hb⟩ := hp
  have R1 := Lib.hid ((R0.out.below hb).alloc (.cells #[.slice A ts.length c] 79))
  have E1 := Lib.hid ((E0.out.below hb).alloc (.cells #[.slice A ts.length c] 79))
  have B1 := Lib.hid ((below_then B0.out hb).alloc (below_then B0.out hb).size (.cells #[.slice A ts.length c] 79))
  have T1 := Lib.hid (tk_made hown htok hcap (HTB.out _ (below_then B0.out hb)))
  have hg1 : w.heap.size + 1 < w1.heap.size := (E0.out.below hb).lt
  have HP1 := Lib.hid (show parseE s.data.toList = wholeE (orE ts.length ts) by rw [HPE.out, ho])
  clear hown htok hcap hb ho HPE HSC R0 E0 B0 HTB
  go_wp2_with fail
  generalize w1.alloc (.cells #[.slice A ts.length c] 79) = W at *
  generalize w1.heap.size = g at *
  refine (vorE g ts.length ts _ (Nat.le_refl _) T1.out).mono ?_
  intro e w3 hp
  cases ho : orE ts.length ts with
  | none =>
    rw [ho] at hp
    obtain ⟨rfl, hg3⟩ := hp
    have R3 := Blk.grown R1.out hg3 (fun e => by injection e with e; omega)
    have E3 := Blk.grown E1.out hg3 (fun e => by injection e with e; omega)
    have B3 : Below w.heap.size w w3 := B1.out.grown hg3 B1.out.size (fun k e => by injection e with e; omega)
    have HN : parseE s.data.toList = none := by rw [HP1.out, whole_none ho]
    refine leaves_cons (f := 42) (args := #[.pointer (some ⟨w.heap.size, 0, none⟩), .pointer (some ⟨w.heap.size + 1, 0, none⟩)]) (by simp) (by simp [go_sem]) ?_
    refine (prs_caught w.heap.size (w.heap.size + 1) zX 0 _ _ [] _ R3 E3 (by omega)).mono ?_
    rintro e u' w'' ⟨rfl, rfl, rfl⟩
    refine ⟨_, prs_ret (fn := Tryz.f25) rfl _ _ w.heap.size (w.heap.size + 1) zX 381 rfl rfl (Blk.put_other (Blk.row R3 xZ) _ (by show w.heap.size ≠ w.heap.size + 1; omega)) (Blk.put (Blk.row_other E3 xZ (by omega)) 0 _), ?_⟩
    rw [HN]
    exact ⟨rfl, (below_row B3 (Nat.le_refl _) xZ).setCell (by show w.heap.size ≤ w.heap.size + 1; omega) _⟩
  | some p =>
  obtain ⟨x, r⟩ := p
  rw [ho] at hp
  obtain ⟨m, rfl, hx, ht3, hg3⟩ := hp
  have R3 := Lib.hid (Blk.grown R1.out hg3 (fun e => by injection e with e; omega))
  have E3 := Lib.hid (Blk.grown E1.out hg3 (fun e => by injection e with e; omega))
  have B3 := Lib.hid (show Below w.heap.size w w3 from B1.out.grown hg3 B1.out.size (fun k e => by injection e with e; omega))
  have W1 := Lib.hid (show w.heap.size + 1 < W.heap.size from E1.out.lt)
  have R4 := Lib.hid (Blk.row R3.out (xC m))
  have E4 := Lib.hid (Blk.row_other E3.out (xC m) (show w.heap.size + 1 ≠ w.heap.size by omega))
  have B4 := Lib.hid (below_row B3.out (Nat.le_refl _) (xC m))
  obtain ⟨A4, c4, hpb, hlc, hcm, _⟩ := ht3.1
  have q0 := (Blk.row_other hpb (xC m) (show g ≠ w.heap.size by omega)).cell 0
  have X := Lib.hid hx
  clear hx ht3 hg3 hpb hcm R1 E1 B1 T1
  cases r with
  | cons t r =>
    have HN : parseE s.data.toList = none := by rw [HP1.out, whole_more ho]
    have hl : (0 : Int) < (((t :: r).length : Nat) : Int) := by simp only [List.length_cons]; omega
    have HNN := Lib.hid HN
    clear HN ho
    generalize (t :: r).length = nr at *
    go_wp2_with ((with_reducible refine store_blk ?_ 25 (.tmp 2) (.tmp 9) ?_ R3.out (xC m) ?_ ?_ ?_ ?_ ?_ ?_); (iterate 4 rfl); (exact x_sz _); rfl; (exact x_one _))
    refine (vfail _).mono ?_
    rintro e w6 ⟨rfl, rfl⟩
    refine leaves_cons (f := 42) (args := #[.pointer (some ⟨w.heap.size, 0, none⟩), .pointer (some ⟨w.heap.size + 1, 0, none⟩)]) (by simp) (by simp [go_sem]) ?_
    refine (prs_caught w.heap.size (w.heap.size + 1) m 0 _ _ [] _ R4.out E4.out (by omega)).mono ?_
    rintro e u' w'' ⟨rfl, rfl, rfl⟩
    refine ⟨_, prs_ret (fn := Tryz.f25) rfl _ _ w.heap.size (w.heap.size + 1) zX 381 rfl rfl (Blk.put_other (Blk.row R4.out xZ) _ (by show w.heap.size ≠ w.heap.size + 1; omega)) (Blk.put (Blk.row_other E4.out xZ (by omega)) 0 _), ?_⟩
    rw [HNN.out]
    exact ⟨rfl, (below_row B4.out (Nat.le_refl _) xZ).setCell (by show w.heap.size ≤ w.heap.size + 1; omega) _⟩
  | nil =>
    have HS := Lib.hid (show parseE s.data.toList = some x by rw [HP1.out, whole_some ho])
    have RR := Lib.hid (Blk.row R4.out (xC m))
    have EE := Lib.hid (Blk.row_other E4.out (xC m) (show w.heap.size + 1 ≠ w.heap.size by omega))
    have BB := Lib.hid (below_row B4.out (Nat.le_refl _) (xC m))
    have e0 := EE.out.cell 0
    have f0 := EE.out.free 0
    simp only [List.length_nil] at q0
    clear ho
    go_wp2_with (first | ((with_reducible refine store_blk ?_ 25 (.tmp 2) (.tmp 9) ?_ R3.out (xC m) ?_ ?_ ?_ ?_ ?_ ?_); (iterate 4 rfl); (exact x_sz _); rfl; (exact x_one _)) | ((with_reducible refine load_blk ?_ 25 (.tmp 2) ?_ R4.out ?_ _ Tryz.underlying25 ?_ ?_ ?_); (iterate 4 rfl); exact x_sz _) | ((with_reducible refine store_blk ?_ 25 (.tmp 2) (.tmp 15) ?_ R4.out (xC m) ?_ ?_ ?_ ?_ ?_ ?_); (iterate 4 rfl); (exact x_sz _); rfl; (exact x_one _)))
    refine leaves_cons (f := 42) (args := #[.pointer (some ⟨w.heap.size, 0, none⟩), .pointer (some ⟨w.heap.size + 1, 0, none⟩)]) (by simp) (by simp [go_sem]) ?_
    refine (prs_idle w.heap.size (w.heap.size + 1) _).mono ?_
    rintro e u' w'' ⟨rfl, rfl, rfl⟩
    refine ⟨_, prs_ret (fn := Tryz.f25) rfl _ _ w.heap.size (w.heap.size + 1) m 0 rfl rfl (Blk.put_other RR.out _ (by show w.heap.size ≠ w.heap.size + 1; omega)) (Blk.put EE.out 0 _), ?_⟩
    rw [HS.out]
    have hz : ∀ i, w.heap.size + 1 < i → (((w3.setRow w.heap.size (xC m)).setRow w.heap.size (xC m)).setCell ⟨w.heap.size + 1, 0, none⟩ (.int .i64 0)).heap[i]? = w3.heap[i]? := fun i hi =>
      (heap_setCell_other _ _ i _ (by show i ≠ w.heap.size + 1; omega)).trans ((setRow_other _ _ _ _ (by omega)).trans (setRow_other _ _ _ _ (by omega)))
    have hsz : (((w3.setRow w.heap.size (xC m)).setRow w.heap.size (xC m)).setCell ⟨w.heap.size + 1, 0, none⟩ (.int .i64 0)).heap.size = w3.heap.size := by
      rw [show ∀ (W : World) (p : Addr) (v : Value), (W.setCell p v).heap.size = W.heap.size from fun W p v => by simp [World.setCell], setRow_size, setRow_size]
    exact ⟨m, rfl, X.out.keep (fun i hi => hz i (by have := hi.1; have := W1.out; omega)) (fun i hi => ⟨by have := hi.1; have := W1.out; omega, by rw [hsz]; exact hi.2⟩), BB.out.setCell (by show w.heap.size ≤ w.heap.size + 1; omega) _⟩
end Go.Proofs.YtpldopoeopjcoaaGreatDoor
/- small of package expression, by the size of the tree. -/
namespace Go.Proofs.YtpldopoeopjcoaaGreatDoor
open Go.RowKit
abbrev LfB (w : World) (g : Nat) (z : Int) : Prop := Blk w g 3 #[.int .i64 z]
def SmPost (r : Bool × Int) (g : Nat) (left : Int) (w : World) (e : Ending) (w' : World) : Prop := e = .returned (.bool r.1) ∧ LfB w' g r.2 ∧ w.grownBy w' (some g) ∧ (r.1 = true → 0 ≤ r.2 ∧ r.2 ≤ left)
theorem kept_of {w w' : World} {B g : Nat} (hg : w.grownBy w' (some g)) (hB : B ≤ g) (hl : g < w.heap.size) : ∀ i, i < B → w'.heap[i]? = w.heap[i]? := fun i hi => hg.block i (by omega) (fun e => by injection e with e; omega)
set_option maxRecDepth 100000 in
set_option maxHeartbeats 4000000 in
theorem vsmall : ∀ (N : Nat) (x : Ex), SizeOf.sizeOf x ≤ N → ∀ (m : Xe) (w : World) (B g : Nat) (lv left : Int), ExV w B x m → LfB w g left → B ≤ g → 0 ≤ lv → lv ≤ 1000000 → 0 ≤ left → left ≤ 1000000 →
    Calls Tryz.prog 23 #[.agg (xC m), .int .i64 lv, .pointer (some ⟨g, 0, none⟩)] w (SmPost (smallX x lv left) g left w)
  | 0, .mk _ _ _ _ _ _ _, hN => by simp at hN
  | N + 1, x, hN => fun m w B g lv left hx hlf hB l1 l2 l3 l4 => by
    cases hx with
    | mk op cm kd nu nm tx ls A c ms hl hn hs hat ih =>
    have hgl := hlf.lt
    have HX := Lib.hid (show ∀ W : World, (∀ i, i < B → W.heap[i]? = w.heap[i]?) → ∀ k (h1 : k < ls.length) (h2 : k < ms.length), ExV W B (ls[k]) (ms[k]) from fun W hW k h1 h2 => (ih k h1 h2).keep hW)
    have HAT := Lib.hid (show ∀ W : World, (∀ i, i < B → W.heap[i]? = w.heap[i]?) → AtE EX W B A ms from fun W hW k hk => by
      obtain ⟨ad, e, hb, hc⟩ := hat k hk
      exact ⟨ad, e, hb, fun j hj => (World.cell?_of_block (by rw [addE_block, addE_block]; exact hW _ hb)).trans (hc j hj)⟩)
    have HSZ := Lib.hid (show ∀ k (h1 : k < ls.length), SizeOf.sizeOf ls[k] ≤ N from fun k h1 => by have := size_at (op := op) (cm := cm) (kd := kd) (nu := nu) (nm := nm) (tx := tx) h1; omega)
    have HE := Lib.hid (smallX_eq op cm kd nu nm tx ls lv left)
    have HMS := Lib.hid hl
    clear hat ih hs hl hN
    generalize hm : (⟨op, cm, kd, nu, nm, tx, A, ls.length, c⟩ : Xe) = m
    have q6 : (xC m)[6]? = some (.slice A ls.length c) := by rw [← hm]; rfl
    clear hm
    have c0 : (w.alloc (.cells (xC m) 25)).cell? ⟨g, 0, none⟩ = some (.int .i64 left) := (hlf.alloc _).cell 0
    have f0 := (hlf.alloc (.cells (xC m) 25)).free 0
    have wl : IntKind.i64.wrap (left - 1) = left - 1 := IntWalk.i64_in _ (by omega)
    have L1 := Lib.hid (show LfB ((w.setCell ⟨g, 0, none⟩ (.int .i64 (left - 1))).alloc (.cells (xC m) 25)) g (left - 1) from (Blk.put hlf 0 _).alloc _)
    have X1 : Blk ((w.setCell ⟨g, 0, none⟩ (.int .i64 (left - 1))).alloc (.cells (xC m) 25)) w.heap.size 25 (xC m) := by
      have := Blk.new (w.setCell ⟨g, 0, none⟩ (.int .i64 (left - 1))) (xC m) 25
      simpa [World.setCell] using this
    have G1 := Lib.hid (only_alloc (only_setCell (World.grownBy.refl w (some g)) (p := ⟨g, 0, none⟩) (.inl rfl) (.int .i64 (left - 1))) (.cells (xC m) 25))
    go_enter Tryz.func23, Tryz.ntmps23
    go_upto_region 2 with (fail)
    clear c0 f0 wl
    generalize (w.setCell ⟨g, 0, none⟩ (.int .i64 (left - 1))).alloc (.cells (xC m) 25) = w1 at *
    have c0 : w1.cell? ⟨g, 0, none⟩ = some (.int .i64 (left - 1)) := L1.out.cell 0
    have c6 : w1.cell? ⟨w.heap.size, 6, none⟩ = some (.slice A ls.length c) := (X1.cell 6).trans q6
    clear X1 q6
    by_cases h0 : left - 1 < 0
    · have HR := Lib.hid (show smallX (.mk op cm kd nu nm tx ls) lv left = (false, left - 1) by rw [HE.out, if_pos (.inl h0)])
      clear HE
      go_wp2_with fail
      go_ret
      exact ⟨retB (by rw [HR.out]), by rw [HR.out]; exact L1.out, G1.out, fun h => by rw [HR.out] at h; cases h⟩
    by_cases h1 : lv < 1
    · have HR := Lib.hid (show smallX (.mk op cm kd nu nm tx ls) lv left = (false, left - 1) by rw [HE.out, if_pos (.inr h1)])
      clear HE
      go_wp2_with fail
      go_ret
      exact ⟨retB (by rw [HR.out]), by rw [HR.out]; exact L1.out, G1.out, fun h => by rw [HR.out] at h; cases h⟩
    have HR := Lib.hid (show smallX (.mk op cm kd nu nm tx ls) lv left = smallL ls (lv - 1) (left - 1) by rw [HE.out, if_neg (by omega)])
    have wv : IntKind.i64.wrap (lv - 1) = lv - 1 := IntWalk.i64_in _ (by omega)
    clear HE
    go_wp2_with fail
    clear c0 c6
    go_loopw [25] (fun i wr => ∃ (k : Nat) (lk : Int), k ≤ ls.length ∧ i = .int .i64 k ∧ LfB wr g lk ∧ w.grownBy wr (some g) ∧ 0 ≤ lk ∧ lk ≤ left - 1 ∧ Hid (smallL ls (lv - 1) (left - 1) = smallL (ls.drop k) (lv - 1) lk)) (fun i _ => ls.length - (intOf i).toNat)
    case atStart => exact ⟨0, left - 1, Nat.zero_le _, rfl, L1.out, G1.out, by omega, by omega, Lib.hid rfl⟩
    case round =>
      obtain ⟨k, lk, hk, rfl, hlk, hgk, k0, k1, hsm⟩ := hrel
      have HLK := Lib.hid hlk
      have HGK := Lib.hid hgk
      by_cases hlt : k < ls.length
      · have hlt1 : (k : Int) < (ls.length : Int) := by omega
        have hkm : k < ms.length := by rw [HMS.out]; exact hlt
        have hkp := kept_of hgk hB hgl
        obtain ⟨ad, rfl, hab, hcx⟩ := HAT.out wr hkp k hkm
        obtain ⟨s0, s1, s2, s3, s4, s5, s6⟩ := x_cells (a := ad.add (k * 7)) hcx
        have HXK := Lib.hid (HX.out wr hkp k hlt hkm)
        have HD : ls.drop k = ls[k] :: ls.drop (k + 1) := List.drop_eq_getElem_cons hlt
        have HSM := Lib.hid (show smallL ls (lv - 1) (left - 1) = smallL (ls[k] :: ls.drop (k + 1)) (lv - 1) lk by rw [hsm.out, HD])
        have HZ := Lib.hid (HSZ.out k hlt)
        have hbr : B ≤ wr.heap.size := by have := hlk.lt; omega
        clear hcx hkp hlk hgk hsm HD
        generalize ls[k] = y at *
        generalize ms[k] = my at *
        have X3 := Lib.hid (Blk.new wr (xC my) 25)
        have LK3 := Lib.hid (HLK.out.alloc (.cells (xC my) 25))
        have HX3 := Lib.hid (HXK.out.keep (fun i hi => Below.heap_alloc wr (.cells (xC my) 25) i (by omega)))
        go_wp2_with ((with_reducible refine load_blk ?_ 25 (.tmp 8) ?_ X3.out ?_ _ Tryz.underlying25 ?_ ?_ ?_); (iterate 4 rfl); exact x_sz _)
        refine (vsmall N y HZ.out my _ B g (lv - 1) lk HX3.out LK3.out hB (by omega) (by omega) k0 (by omega)).mono ?_
        rintro e w5 ⟨rfl, hl5, hg5, hp5⟩
        have HG5 := Lib.hid ((only_alloc HGK.out (.cells (xC my) 25)).trans hg5)
        have HL5 := Lib.hid hl5
        have HP5 := Lib.hid hp5
        clear s0 s1 s2 s3 s4 s5 s6 hl5 hg5 hp5 X3 LK3 HX3
        have HSC := Lib.hid (smallL_cons y (ls.drop (k + 1)) (lv - 1) lk)
        cases hb : (smallX y (lv - 1) lk).1
        · have HF := Lib.hid (show smallX (.mk op cm kd nu nm tx ls) lv left = (false, (smallX y (lv - 1) lk).2) by rw [HR.out, HSM.out, HSC.out, hb]; rfl)
          go_wp2_with fail
          go_ret
          exact ⟨retB (by rw [HF.out]), by rw [HF.out]; exact HL5.out, HG5.out, fun h => by rw [HF.out] at h; cases h⟩
        · have HF := Lib.hid (show smallL ls (lv - 1) (left - 1) = smallL (ls.drop (k + 1)) (lv - 1) (smallX y (lv - 1) lk).2 by rw [HSM.out, HSC.out, hb]; rfl)
          have hp := HP5.out hb
          go_wp2_with fail
          go_roundw
          case rel => exact ⟨k + 1, (smallX y (lv - 1) lk).2, by omega, by go_num, HL5.out, HG5.out, hp.1, by omega, HF⟩
          case measure => simp [intOf]; omega
      · have hlt1 : ¬ (k : Int) < (ls.length : Int) := by omega
        have HF := Lib.hid (show smallX (.mk op cm kd nu nm tx ls) lv left = (true, lk) by rw [HR.out, hsm.out, List.drop_eq_nil_of_le (by omega)]; rw [smallL])
        clear hlk hgk hsm
        go_wp2_with fail
        go_ret
        exact ⟨retB (by rw [HF.out]), by rw [HF.out]; exact HLK.out, HGK.out, fun _ => by rw [HF.out]; exact ⟨k0, by show lk ≤ left; omega⟩⟩
end Go.Proofs.YtpldopoeopjcoaaGreatDoor
/- compares and sound of package expression. -/
namespace Go.Proofs.YtpldopoeopjcoaaGreatDoor
open Go.RowKit
def cmpsB (cm kd nu : Int) (tx : ByteArray) : Bool :=
  if kd = 1 then tx.toList.isEmpty && decide (1 ≤ cm) && decide (cm ≤ 6)
  else if kd = 2 then decide (nu = 0) && decide (tx.size ≤ 128) && (decide (cm = 1) || decide (cm = 2) || decide (cm = 7)) else false
theorem xb_cells {w : World} {g : Nat} {m : Xe} (h : Blk w g 25 (xC m)) : w.cell? ⟨g, 0, none⟩ = some (.int .i64 m.op) ∧ w.cell? ⟨g, 1, none⟩ = some (.int .i64 m.cm) ∧ w.cell? ⟨g, 2, none⟩ = some (.int .i64 m.kd) ∧ w.cell? ⟨g, 3, none⟩ = some (.int .i64 m.nu) ∧ w.cell? ⟨g, 4, none⟩ = some (.string m.nm) ∧ w.cell? ⟨g, 5, none⟩ = some (.string m.tx) ∧ w.cell? ⟨g, 6, none⟩ = some (.slice m.A m.n m.c) :=
  ⟨h.cell 0, h.cell 1, h.cell 2, h.cell 3, h.cell 4, h.cell 5, h.cell 6⟩
set_option maxHeartbeats 4000000 in
theorem vcompares (m : Xe) (w : World) : Calls Tryz.prog 41 #[.agg (xC m)] w fun e w' => e = .returned (.bool (cmpsB m.cm m.kd m.nu m.tx)) ∧ Below w.heap.size w w' := by
  obtain ⟨q0, q1, q2, q3, q4, q5, q6⟩ := xb_cells (Blk.new w (xC m) 25)
  have HB := Lib.hid ((Below.refl w.heap.size w).alloc (Nat.le_refl _) (.cells (xC m) 25))
  generalize hb : cmpsB m.cm m.kd m.nu m.tx = b
  unfold cmpsB at hb
  clear q0 q4 q6
  by_cases hk1 : m.kd = 1
  · rw [if_pos hk1] at hb
    by_cases h1 : 1 ≤ m.cm
    · by_cases h2 : m.cm ≤ 6
      all_goals
        cases he : m.tx.toList.isEmpty
        all_goals
          have HH := Lib.hid hb
          clear hb
          go_enter Tryz.func41, Tryz.ntmps41
          go_wp2_with fail
          go_ret
          exact ⟨retB (by rw [← HH.out, he]; simp [h1, h2]), HB.out⟩
    · cases he : m.tx.toList.isEmpty
      all_goals
        have HBB := Lib.hid (show b = false by rw [← hb]; simp [h1])
        clear hb
        go_enter Tryz.func41, Tryz.ntmps41
        go_wp2_with fail
        go_ret
        exact ⟨retB HBB.out.symm, HB.out⟩
  · rw [if_neg hk1] at hb
    have hk1' : (m.kd == 1) = false := by simpa using hk1
    by_cases hk2 : m.kd = 2
    · rw [if_pos hk2] at hb
      clear hk1 hk1'
      by_cases hn : m.nu = 0
      · by_cases hs : m.tx.size ≤ 128
        · have hs1 : (m.tx.size : Int) ≤ 128 := by omega
          by_cases h1 : m.cm = 1
          · have HBB := Lib.hid (show b = true by rw [← hb]; simp [hn, hs, h1])
            clear hb hs
            go_enter Tryz.func41, Tryz.ntmps41
            go_wp2_with fail
            go_ret
            exact ⟨retB HBB.out.symm, HB.out⟩
          · have h1' : (m.cm == 1) = false := by simpa using h1
            by_cases h2 : m.cm = 2
            · have HBB := Lib.hid (show b = true by rw [← hb]; simp [hn, hs, h2])
              clear hb hs h1 h1'
              go_enter Tryz.func41, Tryz.ntmps41
              go_wp2_with fail
              go_ret
              exact ⟨retB HBB.out.symm, HB.out⟩
            · have h2' : (m.cm == 2) = false := by simpa using h2
              by_cases h3 : m.cm = 7
              · have HBB := Lib.hid (show b = true by rw [← hb]; simp [hn, hs, h3])
                clear hb hs h1 h1' h2 h2'
                go_enter Tryz.func41, Tryz.ntmps41
                go_wp2_with fail
                go_ret
                exact ⟨retB HBB.out.symm, HB.out⟩
              · have h3' : (m.cm == 7) = false := by simpa using h3
                have HBB := Lib.hid (show b = false by rw [← hb]; simp [h1, h2, h3])
                clear hb hs h1 h2 h3
                go_enter Tryz.func41, Tryz.ntmps41
                go_wp2_with fail
                go_ret
                exact ⟨retB HBB.out.symm, HB.out⟩
        · have hs1 : ¬ (m.tx.size : Int) ≤ 128 := by omega
          have HBB := Lib.hid (show b = false by rw [← hb]; simp [hs])
          clear hb hs
          go_enter Tryz.func41, Tryz.ntmps41
          go_wp2_with fail
          go_ret
          exact ⟨retB HBB.out.symm, HB.out⟩
      · have hn' : (m.nu == 0) = false := by simpa using hn
        have HBB := Lib.hid (show b = false by rw [← hb]; simp [hn])
        clear hb hn
        go_enter Tryz.func41, Tryz.ntmps41
        go_wp2_with fail
        go_ret
        exact ⟨retB HBB.out.symm, HB.out⟩
    · rw [if_neg hk2] at hb
      have hk2' : (m.kd == 2) = false := by simpa using hk2
      have HBB := Lib.hid hb.symm
      clear hb hk1 hk2
      go_enter Tryz.func41, Tryz.ntmps41
      go_wp2_with fail
      go_ret
      exact ⟨retB HBB.out.symm, HB.out⟩
end Go.Proofs.YtpldopoeopjcoaaGreatDoor

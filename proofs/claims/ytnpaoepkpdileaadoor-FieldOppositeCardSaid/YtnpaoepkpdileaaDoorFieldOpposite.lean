/- The walk of the law FieldOpposite. -/
import Derived.Test.YtnpaoepkpdileaaDoorFieldBSt
import Derived.Test.YtnpaoepkpdileaaDoorFieldLaws
namespace Go.Proofs.YtnpaoepkpdileaaDoor
open Go.RowKit
set_option maxHeartbeats 400000 in
theorem src_pickP (w : World) (base g B : Nat) (b : Int) (n : Nat) (cs : Array Value) (t : TypeId) (fr : Nat × Nat) (R : Int → Prop) (h : SrcOk w base g b) (hb : b ≤ 1000000000000000) (hB : w.heap[B]? = some (.cells cs t fr)) (hne : B ≠ g)
    (h1 : 1 ≤ n) (h2 : n ≤ 1000) (hall : ∀ k, k < n → ∃ y : Int, cs[k]? = some (.int .i64 y) ∧ R y) :
    Calls Tryd.prog 17 #[.pointer (some ⟨g, 0, none⟩), .slice (some ⟨B, 0, none⟩) n n] w fun e w' => ∃ x : Int, e = .returned (.int .i64 x) ∧ R x ∧ SrcOk w' base g (b + 1) ∧ w.grownBy w' (some g) := by
  have H := Lib.hid h
  have HB := Lib.hid hb
  have HBB := Lib.hid hB
  have HA := Lib.hid hall
  clear h hb hB hall
  go_enter Tryd.func17, Tryd.ntmps17
  go_wp2_with fail
  refine (src_n _ base g b _ H.out HB.out (by omega) (by omega)).mono ?_
  rintro e w1 ⟨x, rfl, hx0, hx1, hs, hg⟩
  have HS := Lib.hid hs
  clear hs
  obtain ⟨k, rfl⟩ := Int.eq_ofNat_of_zero_le hx0
  have hk : k < n := by omega
  obtain ⟨y, hy, hR⟩ := HA.out k hk
  have hc := (only_cell hg HBB.out hne k).trans hy
  clear hy
  go_wp2_with fail
  go_ret
  exact ⟨_, rfl, hR, HS.out, hg⟩
/-- The fields of a number that a context may lack or have. -/
def OppF (x : Int) : Prop := (1 ≤ x ∧ x ≤ 10) ∨ x = 15 ∨ x = 16
theorem opp_text {x : Int} (h : OppF x) : textB x = false := by
  unfold textB
  rcases h with h | rfl | rfl
  · simp; omega
  · decide
  · decide
theorem opp_cells (k : Nat) (hk : k < 12) : ∃ y : Int, (#[.int .i64 1, .int .i64 2, .int .i64 3, .int .i64 4, .int .i64 5, .int .i64 6, .int .i64 7, .int .i64 8, .int .i64 9, .int .i64 10, .int .i64 15, .int .i64 16] : Array Value)[k]? = some (.int .i64 y) ∧ OppF y := by
  have : k = 0 ∨ k = 1 ∨ k = 2 ∨ k = 3 ∨ k = 4 ∨ k = 5 ∨ k = 6 ∨ k = 7 ∨ k = 8 ∨ k = 9 ∨ k = 10 ∨ k = 11 := by omega
  rcases this with rfl | rfl | rfl | rfl | rfl | rfl | rfl | rfl | rfl | rfl | rfl | rfl <;> exact ⟨_, rfl, by unfold OppF; omega⟩
theorem any_cells (k : Nat) (hk : k < 5) : ∃ y : Int, (#[.int .i64 0, .int .i64 1, .int .i64 5, .int .i64 7, .int .i64 1000] : Array Value)[k]? = some (.int .i64 y) ∧ True := by
  have : k = 0 ∨ k = 1 ∨ k = 2 ∨ k = 3 ∨ k = 4 := by omega
  rcases this with rfl | rfl | rfl | rfl | rfl <;> exact ⟨_, rfl, trivial⟩
theorem opp_true {a b y1 y2 : Bool} (h : (a && b) = false ∧ (a || b) = true) (h1 : y1 = (true && a)) (h2 : y2 = (true && b)) : (y1 = true ∧ y2 = false) ∨ (y1 = false ∧ y2 = true) := by
  revert h h1 h2; cases a <;> cases b <;> simp <;> intro h1 h2 <;> simp [h1, h2]
theorem opp_false {a b y1 y2 : Bool} (h1 : y1 = (false && a)) (h2 : y2 = (false && b)) : y1 = false ∧ y2 = false := by
  rw [h1, h2]; exact ⟨rfl, rfl⟩
/-- What the loops keep. -/
structure OSt (w wr : World) (gc gp gn : Nat) (b : Int) (c : Ctx) (r : CRest) (A : Option Addr) (cp : Nat) (L : List (Itm × IRest)) (x z : Int) : Prop where
  st : BSt w wr gc b c r A cp L
  pb : Blk wr gp 47 #[.int .i64 1, .int .i64 2, .int .i64 3, .int .i64 6, .int .i64 4, .int .i64 5]
  nb : Blk wr gn 3 #[.int .i64 x, .int .i64 z]
theorem OSt.below {w wr w' : World} {gc gp gn : Nat} {b : Int} {c : Ctx} {r : CRest} {A : Option Addr} {cp : Nat} {L : List (Itm × IRest)} {x z : Int} (h : OSt w wr gc gp gn b c r A cp L x z) (hb : Below wr.heap.size wr w') : OSt w w' gc gp gn b c r A cp L x z := ⟨h.st.below hb, h.pb.below hb, h.nb.below hb⟩
theorem OSt.drew {w wr : World} {gc gp gn : Nat} {b : Int} {c : Ctx} {r : CRest} {A : Option Addr} {cp : Nat} {L : List (Itm × IRest)} {x z : Int} (h : OSt w wr gc gp gn b c r A cp L x z) : OSt w wr.drew gc gp gn b c r A cp L x z := ⟨h.st.drew, h.pb, h.nb⟩
theorem OSt.all {w wr : World} {gc gp gn : Nat} {b : Int} {c : Ctx} {r : CRest} {A : Option Addr} {cp : Nat} {L : List (Itm × IRest)} {x z : Int} (h : OSt w wr gc gp gn b c r A cp L x z) :
    OSt w wr gc gp gn b c r A cp L x z ∧ (loadVar 35 ⟨gc, 0, none⟩).run Tryd.prog wr = .ok (.agg (ctxC c r (.slice A L.length cp))) wr ∧ wr.cell? ⟨gp, 0, none⟩ = some (.int .i64 1) ∧ wr.cell? ⟨gp, 1, none⟩ = some (.int .i64 2) ∧ wr.cell? ⟨gp, 2, none⟩ = some (.int .i64 3) ∧ wr.cell? ⟨gp, 3, none⟩ = some (.int .i64 6) ∧ wr.cell? ⟨gp, 4, none⟩ = some (.int .i64 4) ∧ wr.cell? ⟨gp, 5, none⟩ = some (.int .i64 5) ∧ wr.cell? ⟨gn, 0, none⟩ = some (.int .i64 x) ∧ wr.cell? ⟨gn, 1, none⟩ = some (.int .i64 z) :=
  ⟨h, lw_ctx h.st.cb, h.pb.cell 0, h.pb.cell 1, h.pb.cell 2, h.pb.cell 3, h.pb.cell 4, h.pb.cell 5, h.nb.cell 0, h.nb.cell 1⟩
theorem opp_has {c : Ctx} {x : Int} (h : OppF x) (hx : x < 15) : hasF c x = true := by
  unfold OppF at h; unfold hasF
  rw [if_neg (by omega)]; simp; omega
theorem opp_hasE {c : Ctx} {x : Int} (h : OppF x) (hx : ¬ x < 15) : hasF c x = decide (c.ph = 2) := by
  unfold OppF at h; unfold hasF
  rw [if_pos (by omega)]
/-- Eval of a test of a number, in the law's words. -/
theorem veval_opp (c : Ctx) (r : CRest) (A : Option Addr) (cp : Nat) (L : List (Itm × IRest)) (hL : L.length ≤ 2) (fd : Int) (hf : OppF fd) (m : Bool) (hm : hasF c fd = m) (op nu : Int) (ho : 1 ≤ op ∧ op ≤ 8) (w : World) (hi : ItemsAt w w.heap.size A L) :
    Calls Tryd.prog 18 #[testV fd op nu ⟨#[]⟩ 0, ctxV c r (.slice A L.length cp)] w fun e w' => ∃ y, Hid (y = (m && cmpF op (valF c Itm.none fd) nu)) ∧ e = .returned (.bool y) ∧ Below w.heap.size w w' := by
  refine (vevalF c r A L.length cp L rfl (by omega) fd op nu ⟨#[]⟩ 0 (by unfold maxLen; show 0 ≤ _; omega) w hi).mono ?_
  rintro e w' ⟨rfl, hb⟩
  refine ⟨_, Lib.hid ?_, rfl, hb⟩
  rw [eval_same, eval_num (by unfold OppF at hf; omega) (opp_text hf) ho, hm]
attribute [local irreducible] ctxC evalF evalP hasF cmpF valF
attribute [-go_sem] loadVar
attribute [local go_sem] lw3 lw9 lw33
set_option maxRecDepth 100000 in
set_option maxHeartbeats 8000000 in
theorem fieldOpposite_walk (w : World) (A : Option Addr) (n c : Nat) (x : Int) (hn : (n : Int) ≤ 9223372036854775807)
    (hl : ∀ k, k < n → ∃ (ad : Addr) (z : Int), A = some ad ∧ ad.block < w.heap.size ∧ w.cell? (ad.add k) = some (.int .i64 z) ∧ -9223372036854775808 ≤ z ∧ z ≤ 9223372036854775807) (hfn : FNames w) (hfo : FOps w) (htb : Tab w) (hpw : Pow w) :
    Calls Tryd.prog 5 #[.slice A n c, .int .i64 x] w fun e w' => e = .returned (.bool true) ∧ Below w.heap.size w w' := by
  have HL := Lib.hid hl
  have HN := Lib.hid hn
  have HAW := Lib.hid (fun (W : World) (h : Below w.heap.size w W) => awake12 W (hfn.below h) (hfo.below h) (htb.below h (Nat.le_refl _)) (hpw.below h (Nat.le_refl _)))
  clear hl hn hfn hfo htb hpw
  go_enter Tryd.func5, Tryd.ntmps5
  go_wp2_with fail
  refine (src_new _ A n c HN.out HL.out).mono ?_
  rintro e w1 ⟨rfl, hs1, hb1⟩
  have hlt1 := src_lt hs1
  have HS1 := Lib.hid hs1
  have HB1 := Lib.hid hb1
  clear hs1 hb1
  go_wp2_with fail
  refine (src_context _ w.heap.size w.heap.size 0 HS1.out (by omega)).mono ?_
  rintro e w2 ⟨cx, r, it, L, rfl, hL2, hown, hs2, hg2⟩
  obtain ⟨Ai, cp, rfl, hst⟩ := bst_new (c := cx) (r := r) HB1.out hlt1 hs2 hg2 hown
  have HX := Blk.new w2 zeroX 35
  have HST := Lib.hid hst
  clear hown hs2 hg2 hst hlt1 HB1 HS1
  go_wp2_with ((with_reducible refine store_blk ?_ 35 (.tmp 6) (.tmp 18) ?_ HX (ctxC cx r (.slice Ai L.length cp)) ?_ ?_ ?_ ?_ ?_ ?_); (iterate 4 rfl); (exact ctx_sz _ _ _); (exact ctx_old _ _ _); (exact ctx_one _ _ _ _ _))
  clear HX
  have hwt : ((w2.alloc (.cells zeroX 35)).setRow w2.heap.size (ctxC cx r (.slice Ai L.length cp))).heap.size = w2.heap.size + 1 := by rw [setRow_size]; simp
  rw [← hwt]
  clear hwt
  generalize (w2.alloc (.cells zeroX 35)).setRow w2.heap.size (ctxC cx r (.slice Ai L.length cp)) = w4 at *
  generalize w2.heap.size = gc at *
  refine (src_pickP _ w.heap.size w.heap.size w4.heap.size (0 + 500) 12 _ 3 (0, 0) OppF (HST.out.src.alloc _) (by omega) (heap_alloc_new w4 _) (by have := src_lt HST.out.src; omega) (by omega) (by omega) opp_cells).mono ?_
  rintro e w5 ⟨fd, rfl, hfd, hs5, hg5⟩
  have st5 := (HST.out.below ((Below.refl _ _).alloc (Nat.le_refl _) (.cells #[.int .i64 1, .int .i64 2, .int .i64 3, .int .i64 4, .int .i64 5, .int .i64 6, .int .i64 7, .int .i64 8, .int .i64 9, .int .i64 10, .int .i64 15, .int .i64 16] 3))).step hs5 hg5
  clear HST hs5 hg5
  have q0 := CtxB.ph st5.cb
  have hcase : (∃ _ : fd < 15, hasF cx fd = true) ∨ (∃ _ : ¬ fd < 15, ∃ _ : cx.ph = 2, hasF cx fd = true) ∨ (∃ _ : ¬ fd < 15, ∃ _ : (cx.ph == 2) = false, hasF cx fd = false) := by
    by_cases h15 : fd < 15
    · exact .inl ⟨h15, opp_has hfd h15⟩
    · by_cases hp : cx.ph = 2
      · exact .inr (.inl ⟨h15, hp, by rw [opp_hasE hfd h15]; simpa using hp⟩)
      · exact .inr (.inr ⟨h15, by simpa using hp, by rw [opp_hasE hfd h15]; simpa using hp⟩)
  rcases hcase with ⟨h15, hm⟩ | ⟨h15, hp, hm⟩ | ⟨h15, hp, hm⟩
  all_goals
    have VE := Lib.hid (veval_opp cx r Ai cp L hL2 fd hfd _ hm)
    clear hm
    go_wp2_with fail
    clear q0
    refine (src_pickP _ w.heap.size w.heap.size (w5.heap.size + 1) (0 + 500 + 1) 5 _ 3 (0, 0) (fun _ => True) ((st5.src.alloc _).alloc _) (by omega) (by have := heap_alloc_new (w5.alloc (.cells #[.int .i64 1, .int .i64 2, .int .i64 3, .int .i64 6, .int .i64 4, .int .i64 5] 47)) (.cells #[.int .i64 0, .int .i64 1, .int .i64 5, .int .i64 7, .int .i64 1000] 3); simpa using this) (by have := src_lt st5.src; omega) (by omega) (by omega) any_cells).mono ?_
    rintro e w6 ⟨z, rfl, _, hs6, hg6⟩
    have hgp : w.heap.size < w5.heap.size := src_lt st5.src
    have P6 := (((Blk.new w5 #[.int .i64 1, .int .i64 2, .int .i64 3, .int .i64 6, .int .i64 4, .int .i64 5] 47).alloc (.cells #[.int .i64 0, .int .i64 1, .int .i64 5, .int .i64 7, .int .i64 1000] 3)).grown hg6 (fun e => by injection e with e; omega)).alloc (.cells #[.int .i64 x, .int .i64 z] 3)
    have N6 := Blk.new w6 #[.int .i64 x, .int .i64 z] 3
    have st6 := ((((st5.below ((Below.refl _ _).alloc (Nat.le_refl _) (.cells #[.int .i64 1, .int .i64 2, .int .i64 3, .int .i64 6, .int .i64 4, .int .i64 5] 47))).below ((Below.refl _ _).alloc (Nat.le_refl _) (.cells #[.int .i64 0, .int .i64 1, .int .i64 5, .int .i64 7, .int .i64 1000] 3))).step hs6 hg6).below ((Below.refl _ _).alloc (Nat.le_refl _) (.cells #[.int .i64 x, .int .i64 z] 3))).more (show 0 + 500 + 1 + 1 ≤ 502 by omega)
    have HO := Lib.hid (OSt.mk (x := x) (z := z) st6 P6 N6)
    clear st5 hs6 hg6 P6 N6 st6 hgp
    go_wp2_with fail
    generalize w6.alloc (.cells #[.int .i64 x, .int .i64 z] 3) = w8 at *
    generalize w6.heap.size = gn at *
    generalize w5.heap.size = gp at *
    go_loopw [11] (fun i wr => ∃ k : Int, i = .int .i64 k ∧ 0 ≤ k ∧ k ≤ 3 ∧ OSt w wr gc gp gn 502 cx r Ai cp L x z) (fun i _ => (3 - intOf i).toNat)
    case atStart => exact ⟨0, rfl, by omega, by omega, HO.out⟩
    case round =>
      obtain ⟨k, rfl, hk0, hk3, hO1⟩ := hrel
      have HO1 := Lib.hid hO1
      clear HO hO1
      by_cases hk : k < 3
      · go_wp2_with fail
        go_loopw [12] (fun i wr => ∃ h : Int, i = .int .i64 h ∧ 0 ≤ h ∧ h ≤ 2 ∧ OSt w wr gc gp gn 502 cx r Ai cp L x z) (fun i _ => (2 - intOf i).toNat)
        case atStart => exact ⟨0, rfl, by omega, by omega, HO1.out⟩
        case round =>
          obtain ⟨h, rfl, hh0, hh2, hO2⟩ := hrel
          clear HO1
          by_cases hh : h < 2
          · have hkk : (k = 0 ∨ k = 1) ∨ k = 2 := by omega
            have hhh : h = 0 ∨ h = 1 := by omega
            clear hk hk0 hk3 hh hh0 hh2
            rcases hkk with (rfl | rfl) | rfl <;> rcases hhh with rfl | rfl
            all_goals
              go_wp2_with fail
              go_region_held3 (fun w' => OSt w w' gc gp gn 502 cx r Ai cp L x z ∧ (loadVar 35 ⟨gc, 0, none⟩).run Tryd.prog w' = .ok (.agg (ctxC cx r (.slice Ai L.length cp))) w' ∧ w'.cell? ⟨gp, 0, none⟩ = some (.int .i64 1) ∧ w'.cell? ⟨gp, 1, none⟩ = some (.int .i64 2) ∧ w'.cell? ⟨gp, 2, none⟩ = some (.int .i64 3) ∧ w'.cell? ⟨gp, 3, none⟩ = some (.int .i64 6) ∧ w'.cell? ⟨gp, 4, none⟩ = some (.int .i64 4) ∧ w'.cell? ⟨gp, 5, none⟩ = some (.int .i64 5) ∧ w'.cell? ⟨gn, 0, none⟩ = some (.int .i64 x) ∧ w'.cell? ⟨gn, 1, none⟩ = some (.int .i64 z))
                (first | exact OSt.all hO2.drew | exact OSt.all (OSt.below (And.left (by assumption)) hb))
                (first | (go_at_call 18; refine (VE.out _ _ (by omega) _ (BSt.items (OSt.st (And.left (by assumption))))).mono ?_; rintro e w7 ⟨y1, hy1, rfl, hb⟩))
              rename_i w8 hS8
              have O8 := hS8.1
              clear hS8 hO2
              go_wp2_with fail
              go_region_held3 (fun w' => OSt w w' gc gp gn 502 cx r Ai cp L x z ∧ (loadVar 35 ⟨gc, 0, none⟩).run Tryd.prog w' = .ok (.agg (ctxC cx r (.slice Ai L.length cp))) w' ∧ w'.cell? ⟨gp, 0, none⟩ = some (.int .i64 1) ∧ w'.cell? ⟨gp, 1, none⟩ = some (.int .i64 2) ∧ w'.cell? ⟨gp, 2, none⟩ = some (.int .i64 3) ∧ w'.cell? ⟨gp, 3, none⟩ = some (.int .i64 6) ∧ w'.cell? ⟨gp, 4, none⟩ = some (.int .i64 4) ∧ w'.cell? ⟨gp, 5, none⟩ = some (.int .i64 5) ∧ w'.cell? ⟨gn, 0, none⟩ = some (.int .i64 x) ∧ w'.cell? ⟨gn, 1, none⟩ = some (.int .i64 z))
                (first | exact OSt.all O8.drew | exact OSt.all (OSt.below (And.left (by assumption)) hb))
                (first | (go_at_call 18; refine (VE.out _ _ (by omega) _ (BSt.items (OSt.st (And.left (by assumption))))).mono ?_; rintro e w7 ⟨y2, hy2, rfl, hb⟩))
              rename_i w9 hS9
              have HO9 := Lib.hid hS9.1
              clear hS9 O8
              first
                | (obtain ⟨e1, e2⟩ := opp_false hy1.out hy2.out
                   clear hy1 hy2
                   subst e1 e2
                   go_wp2_with fail
                   go_roundw
                   case rel => exact ⟨_, rfl, by omega, by omega, HO9.out⟩
                   case measure => simp [intOf])
                | (rcases opp_true (by first | exact cmp_eq _ _ | exact cmp_lt _ _ | exact cmp_le _ _) hy1.out hy2.out with ⟨e1, e2⟩ | ⟨e1, e2⟩
                   all_goals
                     clear hy1 hy2
                     subst e1 e2
                     go_wp2_with fail
                     go_roundw
                     case rel => exact ⟨_, rfl, by omega, by omega, HO9.out⟩
                     case measure => simp [intOf])
          · obtain rfl : h = 2 := by omega
            have HO3 := Lib.hid hO2
            clear hO2
            go_wp2_with fail
            go_roundw
            case rel => exact ⟨k + 1, by go_num, by omega, by omega, HO3.out⟩
            case measure => simp [intOf]; omega
      · obtain rfl : k = 3 := by omega
        go_wp2_with fail
        refine (HAW.out _ HO1.out.st.low).mono ?_
        rintro e w9 ⟨rfl, hb9⟩
        go_wp2_with fail
        go_ret
        exact ⟨rfl, below_then HO1.out.st.low hb9⟩
end Go.Proofs.YtnpaoepkpdileaaDoor

/- Texts of one proof, laid together. -/
import Derived.Test.YtpldopoeopjcoaaGreatDoorK21
import Derived.Test.YtpldopoeopjcoaaGreatDoorK20
import Derived.WalkKit
import Derived.ProofKit
import Derived.OpenShut
import Derived.Carry
import Derived.LaidSub
import Derived.Lib.LaidTab
import Derived.MakeChecks
import Derived.Stop.Joined
/- The truth of expressions that are made of others: plain; not and two of the law. -/
namespace Go.Proofs.YtpldopoeopjcoaaGreatDoor
open Go.RowKit
def notX (x : Ex) : Ex := .mk 3 0 0 0 ⟨#[]⟩ ⟨#[]⟩ [x]
def twoX (op : Int) (x y : Ex) : Ex := .mk op 0 0 0 ⟨#[]⟩ ⟨#[]⟩ [x, y]
def V3 (v : Int) : Prop := v = 1 ∨ v = 2 ∨ v = 3
theorem ev_not (ps : List Pr) (x : Ex) : evX ps (notX x) = notV (evX ps x) := by
  unfold notX
  rw [evX_eq]
  unfold evN
  rw [if_neg (by decide), if_neg (by decide), if_pos rfl]
  rfl
theorem ev_and (ps : List Pr) (x y : Ex) : evX ps (twoX 1 x y) = foldB 2 [evX ps x, evX ps y] 1 := by
  unfold twoX
  rw [evX_eq]
  unfold evN
  rw [if_neg (by decide), if_neg (by decide), if_neg (by decide), if_neg (by decide)]
  rfl
theorem ev_or (ps : List Pr) (x y : Ex) : evX ps (twoX 2 x y) = foldB 1 [evX ps x, evX ps y] 2 := by
  unfold twoX
  rw [evX_eq]
  unfold evN
  rw [if_neg (by decide), if_neg (by decide), if_neg (by decide), if_pos rfl]
  rfl
theorem notV_3 {v : Int} (h : V3 v) : V3 (notV v) := by
  unfold V3 notV
  rcases h with rfl | rfl | rfl <;> decide
theorem foldB_3 {s : Int} (hs : V3 s) : ∀ {l : List Int} {r : Int}, (∀ v ∈ l, V3 v) → V3 r → V3 (foldB s l r)
  | [], _, _, hr => hr
  | v :: l, r, hl, hr => by
    unfold foldB
    split
    · exact hs
    · refine foldB_3 hs (fun u hu => hl u (List.mem_cons_of_mem _ hu)) ?_
      split
      · exact .inr (.inr rfl)
      · exact hr
theorem evT_3 (m : Xe) : ∀ (ps : List Pr) (r : Int), V3 r → V3 (ps.foldl (stepT m) r)
  | [], _, h => h
  | p :: ps, r, h => by
    rw [List.foldl_cons]
    refine evT_3 m ps _ ?_
    unfold stepT
    split
    · split
      · exact .inl rfl
      · exact .inr (.inl rfl)
    · exact h
theorem evX_3 (ps : List Pr) : ∀ (n : Nat) (x : Ex), SizeOf.sizeOf x ≤ n → soundX x = true → V3 (evX ps x)
  | 0, .mk _ _ _ _ _ _ _, h, _ => by simp at h
  | n + 1, .mk op cm kd nu nm tx ls, h, hs => by
    rw [soundX_eq] at hs
    simp only [Bool.and_eq_true] at hs
    obtain ⟨hl, hh⟩ := hs
    have hk : ∀ v ∈ ls.map (evX ps), V3 v := fun v hv => by
      obtain ⟨y, hy, rfl⟩ := List.mem_map.1 hv
      obtain ⟨k, hk, rfl⟩ := List.getElem_of_mem hy
      exact evX_3 ps n _ (by have := size_at (op := op) (cm := cm) (kd := kd) (nu := nu) (nm := nm) (tx := tx) hk; omega) (soundL_all hl k hk)
    rw [evX_eq]
    unfold evN
    split
    · exact evT_3 _ _ _ (.inr (.inr rfl))
    · split
      · unfold evH
        split
        · exact .inl rfl
        · exact .inr (.inl rfl)
      · split
        · refine notV_3 ?_
          cases hls : ls.map (evX ps) with
          | nil => exact .inr (.inr rfl)
          | cons a r => exact hk a (by rw [hls]; exact List.mem_cons_self ..)
        · split
          · exact foldB_3 (.inl rfl) hk (.inr (.inl rfl))
          · exact foldB_3 (.inr (.inl rfl)) hk (.inl rfl)
theorem two_sound {op : Int} {x y : Ex} (ho : op = 1 ∨ op = 2) (hx : soundX x = true) (hy : soundX y = true) : soundX (twoX op x y) = true := by
  unfold twoX
  rw [soundX_eq, soundL_cons, soundL_cons, hx, hy, soundL]
  rcases ho with rfl | rfl <;> (show (true && (true && true) && headX _ 0 0 0 ⟨#[]⟩ ⟨#[]⟩ 2) = true; decide +kernel)
theorem not_sound {x : Ex} (hx : soundX x = true) : soundX (notX x) = true := by
  unfold notX
  rw [soundX_eq, soundL_cons, hx, soundL]
  show (true && true && headX 3 0 0 0 ⟨#[]⟩ ⟨#[]⟩ 1) = true
  decide +kernel
theorem two_sz (op : Int) (x y : Ex) : cntL [twoX op x y] = 1 + cntL [x] + cntL [y] ∧ depL [twoX op x y] = 1 + max (depL [x]) (depL [y]) := by
  unfold twoX
  rw [cntL_cons, depL_cons, cntL_nil, depL_nil, cntL_one x [y], depL_one x [y]]
  omega
theorem not_sz (x : Ex) : cntL [notX x] = 1 + cntL [x] ∧ depL [notX x] = 1 + depL [x] := by
  unfold notX
  rw [cntL_cons, depL_cons, cntL_nil, depL_nil]
  omega
theorem eval_fit {x : Ex} (ps : List Pr) (hs : soundX x = true) (hd : depL [x] ≤ 6) (hc : cntL [x] ≤ 24) : evalE x ps = evX ps x := by
  unfold evalE
  rw [if_pos (check_fit hs hd hc)]
/-- What ExpressionLogic says of the values of the expressions that it makes. -/
structure LogV (ps : List Pr) (a b : Ex) (va vb vA vO : Int) : Prop where
  ha : V3 va
  hb : V3 vb
  ea : evalE a ps = va
  eb : evalE b ps = vb
  nna : evalE (notX (notX a)) ps = va
  aa : evalE (twoX 1 a a) ps = va
  oa : evalE (twoX 2 a a) ps = va
  ab : evalE (twoX 1 a b) ps = vA
  ba : evalE (twoX 1 b a) ps = vA
  nab : evalE (notX (twoX 1 a b)) ps = notV vA
  onn : evalE (twoX 2 (notX a) (notX b)) ps = notV vA
  nob : evalE (notX (twoX 2 a b)) ps = notV vO
  ann : evalE (twoX 1 (notX a) (notX b)) ps = notV vO
  ob : evalE (twoX 2 a b) ps = vO
  hA : (vA == 1) = (va == 1 && vb == 1)
  hO : (vO == 1) = (va == 1 || vb == 1)
theorem log_v (ps : List Pr) {a b : Ex} (ga : GoodM 1 a) (gb : GoodM 1 b) : ∃ va vb vA vO, LogV ps a b va vb vA vO := by
  obtain ⟨sa, _, da, ca⟩ := ga
  obtain ⟨sb, _, db, cb⟩ := gb
  have ca := ca (by omega)
  have cb := cb (by omega)
  have va := evX_3 ps _ a (Nat.le_refl _) sa
  have vb := evX_3 ps _ b (Nat.le_refl _) sb
  have n1 := not_sz a
  have n2 := not_sz b
  have n3 := not_sz (notX a)
  have t1 := two_sz 1 a a
  have t2 := two_sz 2 a a
  have t3 := two_sz 1 a b
  have t4 := two_sz 1 b a
  have t5 := two_sz 2 a b
  have t6 := two_sz 2 (notX a) (notX b)
  have t7 := two_sz 1 (notX a) (notX b)
  have n4 := not_sz (twoX 1 a b)
  have n5 := not_sz (twoX 2 a b)
  have o1 : (1 : Int) = 1 ∨ (1 : Int) = 2 := .inl rfl
  have o2 : (2 : Int) = 1 ∨ (2 : Int) = 2 := .inr rfl
  refine ⟨evX ps a, evX ps b, foldB 2 [evX ps a, evX ps b] 1, foldB 1 [evX ps a, evX ps b] 2, va, vb, eval_fit ps sa (by omega) (by omega), eval_fit ps sb (by omega) (by omega), ?_, ?_, ?_, ?_, ?_, ?_, ?_, ?_, ?_, ?_, ?_, ?_⟩
  · rw [eval_fit ps (not_sound (not_sound sa)) (by omega) (by omega), ev_not, ev_not]
    rcases va with h | h | h <;> (rw [h]; rfl)
  · rw [eval_fit ps (two_sound o1 sa sa) (by omega) (by omega), ev_and]
    rcases va with h | h | h <;> (rw [h]; rfl)
  · rw [eval_fit ps (two_sound o2 sa sa) (by omega) (by omega), ev_or]
    rcases va with h | h | h <;> (rw [h]; rfl)
  · rw [eval_fit ps (two_sound o1 sa sb) (by omega) (by omega), ev_and]
  · rw [eval_fit ps (two_sound o1 sb sa) (by omega) (by omega), ev_and]
    rcases va with h | h | h <;> rcases vb with k | k | k <;> (rw [h, k] <;> rfl)
  · rw [eval_fit ps (not_sound (two_sound o1 sa sb)) (by omega) (by omega), ev_not, ev_and]
  · rw [eval_fit ps (two_sound o2 (not_sound sa) (not_sound sb)) (by omega) (by omega), ev_or, ev_not, ev_not]
    rcases va with h | h | h <;> rcases vb with k | k | k <;> (rw [h, k] <;> rfl)
  · rw [eval_fit ps (not_sound (two_sound o2 sa sb)) (by omega) (by omega), ev_not, ev_or]
  · rw [eval_fit ps (two_sound o1 (not_sound sa) (not_sound sb)) (by omega) (by omega), ev_and, ev_not, ev_not]
    rcases va with h | h | h <;> rcases vb with k | k | k <;> (rw [h, k] <;> rfl)
  · rw [eval_fit ps (two_sound o2 sa sb) (by omega) (by omega), ev_or]
  · rcases va with h | h | h <;> rcases vb with k | k | k <;> (rw [h, k] <;> rfl)
  · rcases va with h | h | h <;> rcases vb with k | k | k <;> (rw [h, k] <;> rfl)
theorem ExV.bel {w w' : World} {x : Ex} {m : Xe} (h : ExV w w.heap.size x m) (hb : Below w.heap.size w w') : ExV w' w'.heap.size x m := (h.keep (fun i hi => hb.block i hi)).more hb.size
def XvPost (x : Ex) (w : World) (e : Ending) (w' : World) : Prop := ∃ m, e = .returned (.agg (xC m)) ∧ ExV w' w'.heap.size x m ∧ Below w.heap.size w w'
abbrev xCC (m n : Xe) : Array Value := #[.int .i64 m.op, .int .i64 m.cm, .int .i64 m.kd, .int .i64 m.nu, .string m.nm, .string m.tx, .slice m.A m.n m.c, .int .i64 n.op, .int .i64 n.cm, .int .i64 n.kd, .int .i64 n.nu, .string n.nm, .string n.tx, .slice n.A n.n n.c]
theorem ate_row {α : Type} {E : El α} {W : World} {g : Nat} {cs : Array Value} {A : Option Addr} {L : List α} (h : AtE E W W.heap.size A L) (hne : ∀ ad, A = some ad → ad.block ≠ g) : AtE E (W.setRow g cs) (W.setRow g cs).heap.size A L := fun k hk => by
  obtain ⟨ad, e, hb, hc⟩ := h k hk
  exact ⟨ad, e, by rw [setRow_size]; exact hb, fun j hj => (World.cell?_of_block (by rw [addE_block, addE_block]; exact setRow_other _ _ _ _ (hne ad e))).trans (hc j hj)⟩
set_option maxRecDepth 100000 in
set_option maxHeartbeats 4000000 in
theorem vnot38 (x : Ex) (m : Xe) (w : World) (hx : ExV w w.heap.size x m) : Calls Tryz.prog 16 #[.agg (xC m)] w (XvPost (notX x) w) := by
  have hs1 : (w.alloc (.cells (xC m) 25)).heap.size = w.heap.size + 1 := by simp
  have hs2 : ((w.alloc (.cells (xC m) 25)).alloc (.cells xZ 25)).heap.size = w.heap.size + 1 + 1 := by simp
  have B3 := Lib.hid ((((Below.refl w.heap.size w).alloc (Nat.le_refl _) (.cells (xC m) 25)).alloc (by rw [hs1]; omega) (.cells xZ 25)).alloc (by rw [hs2]; omega) (.cells (xC m) 25))
  have X1 := Lib.hid ((Blk.new w (xC m) 25).alloc (.cells xZ 25))
  have R3 := Lib.hid (show Blk (((w.alloc (.cells (xC m) 25)).alloc (.cells xZ 25)).alloc (.cells (xC m) 25)) (w.heap.size + 1) 25 xZ by
    have h := (Blk.new (w.alloc (.cells (xC m) 25)) xZ 25).alloc (.cells (xC m) 25)
    rw [hs1] at h
    exact h)
  have ho := OwnE.made EX ((w.alloc (.cells (xC m) 25)).alloc (.cells xZ 25)) (xC m) [m] rfl (base := 0) (Nat.zero_le _) (by show 1 ≤ 1000; omega) (n := 1) rfl
  rw [hs2] at ho
  obtain ⟨A1, c1, e1, hat⟩ := ho.at
  injection e1 with e1 e5 e6
  subst e1
  clear e5 e6
  have HAT := Lib.hid hat
  have HX := Lib.hid hx
  clear hx hs1 hs2 ho hat
  go_enter Tryz.func16, Tryz.ntmps16
  go_wp2_with (first | ((with_reducible refine load_blk ?_ 25 (.tmp 1) ?_ X1.out ?_ _ Tryz.underlying25 ?_ ?_ ?_); (iterate 4 rfl); exact x_sz _) | ((with_reducible refine store_blk ?_ 25 (.tmp 2) (.tmp 5) ?_ R3.out (xC ⟨3, 0, 0, 0, ⟨#[]⟩, ⟨#[]⟩, some ⟨w.heap.size + 1 + 1, 0, none⟩, 1, 1⟩) ?_ ?_ ?_ ?_ ?_ ?_); (iterate 4 rfl); (exact x_sz _); rfl; (exact x_one _)))
  refine bodyPost_ret (x_ret (fn := Tryz.f16) rfl _ _ (w.heap.size + 1) ⟨3, 0, 0, 0, ⟨#[]⟩, ⟨#[]⟩, some ⟨w.heap.size + 1 + 1, 0, none⟩, 1, 1⟩ rfl (Blk.row R3.out _)) rfl ?_
  have hb := below_row B3.out (g := w.heap.size + 1) (by omega) (xC ⟨3, 0, 0, 0, ⟨#[]⟩, ⟨#[]⟩, some ⟨w.heap.size + 1 + 1, 0, none⟩, 1, 1⟩)
  have ha := ate_row (g := w.heap.size + 1) (cs := xC ⟨3, 0, 0, 0, ⟨#[]⟩, ⟨#[]⟩, some ⟨w.heap.size + 1 + 1, 0, none⟩, 1, 1⟩) HAT.out (fun ad e => by injection e with e; subst e; show w.heap.size + 1 + 1 ≠ w.heap.size + 1; omega)
  refine ⟨_, rfl, ExV.mk 3 0 0 0 ⟨#[]⟩ ⟨#[]⟩ [x] _ 1 [m] rfl (by show 1 ≤ 1000000; omega) ⟨by show 0 ≤ maxLen; omega, by show 0 ≤ maxLen; omega⟩ ha (fun k h1 h2 => ?_), hb⟩
  have : k = 0 := by simpa using h1
  subst this
  exact HX.out.bel hb
set_option maxRecDepth 100000 in
set_option maxHeartbeats 4000000 in
theorem vtwo38 (op : Int) (x y : Ex) (m n : Xe) (w : World) (hx : ExV w w.heap.size x m) (hy : ExV w w.heap.size y n) : Calls Tryz.prog 17 #[.int .i64 op, .agg (xC m), .agg (xC n)] w (XvPost (twoX op x y) w) := by
  have hs1 : (w.alloc (.cells (xC m) 25)).heap.size = w.heap.size + 1 := by simp
  have hs2 : ((w.alloc (.cells (xC m) 25)).alloc (.cells (xC n) 25)).heap.size = w.heap.size + 1 + 1 := by simp
  have hs3 : (((w.alloc (.cells (xC m) 25)).alloc (.cells (xC n) 25)).alloc (.cells xZ 25)).heap.size = w.heap.size + 1 + 1 + 1 := by simp
  have B4 := Lib.hid (((((Below.refl w.heap.size w).alloc (Nat.le_refl _) (.cells (xC m) 25)).alloc (by rw [hs1]; omega) (.cells (xC n) 25)).alloc (by rw [hs2]; omega) (.cells xZ 25)).alloc (by rw [hs3]; omega) (.cells (xCC m n) 25))
  have X1 := Lib.hid (((Blk.new w (xC m) 25).alloc (.cells (xC n) 25)).alloc (.cells xZ 25))
  have Y1 := Lib.hid (show Blk (((w.alloc (.cells (xC m) 25)).alloc (.cells (xC n) 25)).alloc (.cells xZ 25)) (w.heap.size + 1) 25 (xC n) by
    have h := (Blk.new (w.alloc (.cells (xC m) 25)) (xC n) 25).alloc (.cells xZ 25)
    rw [hs1] at h
    exact h)
  have R4 := Lib.hid (show Blk ((((w.alloc (.cells (xC m) 25)).alloc (.cells (xC n) 25)).alloc (.cells xZ 25)).alloc (.cells (xCC m n) 25)) (w.heap.size + 1 + 1) 25 xZ by
    have h := (Blk.new ((w.alloc (.cells (xC m) 25)).alloc (.cells (xC n) 25)) xZ 25).alloc (.cells (xCC m n) 25)
    rw [hs2] at h
    exact h)
  have ho := OwnE.made EX (((w.alloc (.cells (xC m) 25)).alloc (.cells (xC n) 25)).alloc (.cells xZ 25)) (xCC m n) [m, n] rfl (base := 0) (Nat.zero_le _) (by show 2 ≤ 1000; omega) (n := 2) rfl
  rw [hs3] at ho
  obtain ⟨A1, c1, e1, hat⟩ := ho.at
  injection e1 with e1 e5 e6
  subst e1
  clear e5 e6
  have HAT := Lib.hid hat
  have HX := Lib.hid hx
  have HY := Lib.hid hy
  clear hx hy hs1 hs2 hs3 ho hat
  go_enter Tryz.func17, Tryz.ntmps17
  go_wp2_with (first | ((with_reducible refine load_blk ?_ 25 (.tmp 4) ?_ X1.out ?_ _ Tryz.underlying25 ?_ ?_ ?_); (iterate 4 rfl); exact x_sz _) | ((with_reducible refine load_blk ?_ 25 (.tmp 5) ?_ Y1.out ?_ _ Tryz.underlying25 ?_ ?_ ?_); (iterate 4 rfl); exact x_sz _) | ((with_reducible refine store_blk ?_ 25 (.tmp 6) (.tmp 11) ?_ R4.out (xC ⟨op, 0, 0, 0, ⟨#[]⟩, ⟨#[]⟩, some ⟨w.heap.size + 1 + 1 + 1, 0, none⟩, 2, 2⟩) ?_ ?_ ?_ ?_ ?_ ?_); (iterate 4 rfl); (exact x_sz _); rfl; (exact x_one _)))
  refine bodyPost_ret (x_ret (fn := Tryz.f17) rfl _ _ (w.heap.size + 1 + 1) ⟨op, 0, 0, 0, ⟨#[]⟩, ⟨#[]⟩, some ⟨w.heap.size + 1 + 1 + 1, 0, none⟩, 2, 2⟩ rfl (Blk.row R4.out _)) rfl ?_
  have hb := below_row B4.out (g := w.heap.size + 1 + 1) (by omega) (xC ⟨op, 0, 0, 0, ⟨#[]⟩, ⟨#[]⟩, some ⟨w.heap.size + 1 + 1 + 1, 0, none⟩, 2, 2⟩)
  have ha := ate_row (g := w.heap.size + 1 + 1) (cs := xC ⟨op, 0, 0, 0, ⟨#[]⟩, ⟨#[]⟩, some ⟨w.heap.size + 1 + 1 + 1, 0, none⟩, 2, 2⟩) HAT.out (fun ad e => by injection e with e; subst e; show w.heap.size + 1 + 1 + 1 ≠ w.heap.size + 1 + 1; omega)
  refine ⟨_, rfl, ExV.mk op 0 0 0 ⟨#[]⟩ ⟨#[]⟩ [x, y] _ 2 [m, n] rfl (by show 2 ≤ 1000000; omega) ⟨by show 0 ≤ maxLen; omega, by show 0 ≤ maxLen; omega⟩ ha (fun k h1 h2 => ?_), hb⟩
  have : k = 0 ∨ k = 1 := by simp at h1; omega
  rcases this with rfl | rfl
  · exact HX.out.bel hb
  · exact HY.out.bel hb
end Go.Proofs.YtpldopoeopjcoaaGreatDoor
/- The walk of the law ExpressionBack. -/
namespace Go.Proofs.YtpldopoeopjcoaaGreatDoor
open Go.RowKit
/-- A variable in block g that holds the expression x. -/
structure XH (w : World) (g : Nat) (x : Ex) (m : Xe) : Prop where
  blk : Blk w g 25 (xC m)
  val : ExV w w.heap.size x m
theorem XH.below {w w' : World} {g : Nat} {x : Ex} {m : Xe} (h : XH w g x m) (hb : Below w.heap.size w w') : XH w' g x m := ⟨h.blk.below hb, h.val.bel hb⟩
theorem XH.new {w : World} {x : Ex} {m : Xe} (h : ExV w w.heap.size x m) : XH (w.alloc (.cells (xC m) 25)) w.heap.size x m := ⟨Blk.new w _ _, h.bel ((Below.refl w.heap.size w).alloc (Nat.le_refl _) _)⟩
theorem below_new {b : Nat} {w w' : World} (h : Below b w w') (hb : b ≤ w'.heap.size) (o : Obj) : Below b w (w'.alloc o) := h.alloc hb o
theorem parse_some {s : ByteArray} {x : Ex} (h : parseC s = some x) : checkX x = 0 ∧ NumX x ∧ (fmtT x).size ≤ 1000000 ∧ (formE x).size ≤ maxLen := by
  obtain ⟨h1, h2⟩ := parseC_ok h
  obtain ⟨h3, h4⟩ := fmt_fit h1 h2
  refine ⟨h1, h2, h4, ?_⟩
  rw [show formE x = fmtT x from if_pos h1]
  unfold maxLen
  omega
theorem parse_none {s : ByteArray} (h : ¬ s.size ≤ 512) : parseC s = none := by unfold parseC; rw [if_neg h]
attribute [-go_sem] loadVar
attribute [local go_sem] lv3x lv9x lvXx
attribute [local irreducible] parseC formE checkX
set_option maxRecDepth 100000 in
set_option maxHeartbeats 16000000 in
theorem expressionBack_walk (w : World) (A : Option Addr) (n0 c0 : Nat) (raw : ByteArray) (hnc : n0 ≤ c0) (hcn : (c0 : Int) ≤ 9223372036854775807)
    (hl : ∀ k, k < n0 → ∃ (ad : Addr) (z : Int), A = some ad ∧ ad.block < w.heap.size ∧ w.cell? (ad.add k) = some (.int .u8 z) ∧ 0 ≤ z ∧ z ≤ 255) (hraw : raw.size ≤ maxLen) (hG : XGlob w) :
    Calls Tryz.prog 3 #[.slice A n0 c0, .string raw] w fun e w' => e = .returned (.bool true) ∧ Below w.heap.size w w' := by
  have HG := Lib.hid (fun (W : World) (h : Below w.heap.size w W) => hG.below h)
  have HRW := Lib.hid hraw
  have HN := Lib.hid (ca_new w A n0 c0 300 (by omega) hnc hcn hl)
  clear hG hl hnc hcn hraw
  go_enter Tryz.func3, Tryz.ntmps3
  go_wp2_with fail
  refine HN.out.mono ?_
  rintro e w1 ⟨rfl, hca, hb1⟩
  have C1 := Lib.hid hca
  have B1 := Lib.hid hb1
  clear hca hb1 HN
  go_wp2_with fail
  refine (ca_expr w.heap.size w.heap.size 4 _ (by omega) C1.out).mono ?_
  rintro e w2 ⟨a, ma, rfl, hxa, hga, hca, hg⟩
  have hb2 := below_only B1.out hg B1.out.size (Nat.le_refl _)
  have hv := hxa.v (B := w2.heap.size) (fun i hi => hi.2)
  have B3 := Lib.hid (below_new hb2 hb2.size (.cells (xC ma) 25))
  have K3 := Lib.hid (XH.new hv)
  have NA := Lib.hid (show NumX a from hga.2.1)
  clear hxa hga hca hg hb2 hv C1 B1
  have l1 := ld_x K3.out.blk
  go_wp2_with fail
  generalize w2.alloc (.cells (xC ma) 25) = w3 at *
  generalize w2.heap.size = ga at *
  refine (vFormat38 a ma w3 K3.out.val (fun h => fmt_fit h NA.out) (HG.out _ B3.out).env).mono ?_
  rintro e w4 ⟨rfl, hb4⟩
  have B4 := Lib.hid (below_then B3.out hb4)
  have K4 := Lib.hid (K3.out.below hb4)
  clear hb4 B3 K3 l1
  have l1 := ld_x K4.out.blk
  go_wp2_with fail
  refine (vcheckX a ma w4 K4.out.val).mono ?_
  rintro e w5 ⟨rfl, hb5⟩
  have B5 := Lib.hid (below_then B4.out hb5)
  have K5 := Lib.hid (K4.out.below hb5)
  clear hb5 B4 K4 l1
  by_cases hc : checkX a = 0
  case neg =>
    have hc1 : (checkX a == 0) = false := by simpa using hc
    clear hc
    go_wp2_with fail
    refine (vParse38 raw HRW.out w5 (HG.out _ B5.out).env).mono ?_
    intro e v1 hp
    cases hq : parseC raw with
    | none =>
      rw [hq] at hp
      obtain ⟨er, hne0, rfl, hbp⟩ := hp
      have hne1 : (er == 0) = false := by simpa using hne0
      have C1 := Lib.hid (below_new (below_then B5.out hbp) (below_then B5.out hbp).size (.cells xZ 25))
      clear hbp hne0
      go_wp2_with fail
      refine (vbegun _ (HG.out _ C1.out)).mono ?_
      rintro e v2 ⟨rfl, hbv⟩
      go_wp2_with fail
      go_ret
      exact ⟨rfl, below_then C1.out hbv⟩
    | some y =>
      rw [hq] at hp
      obtain ⟨my, rfl, hxy, hbp⟩ := hp
      obtain ⟨p1, p2, p3, p4⟩ := parse_some hq
      have P1 := Lib.hid p1
      have P2 := Lib.hid p2
      have P3 := Lib.hid p3
      have P4 := Lib.hid p4
      have C1 := Lib.hid (below_new (below_then B5.out hbp) (below_then B5.out hbp).size (.cells (xC my) 25))
      have Y1 := Lib.hid (XH.new (hxy.v (B := v1.heap.size) (fun i hi => hi.2)))
      have y1 := ld_x Y1.out.blk
      clear hbp hxy p1 p2 p3 p4 hq
      go_wp2_with fail
      generalize v1.alloc (.cells (xC my) 25) = v2 at *
      generalize v1.heap.size = gy at *
      refine (vFormat38 y my v2 Y1.out.val (fun _ => ⟨P2.out, P3.out⟩) (HG.out _ C1.out).env).mono ?_
      rintro e v3 ⟨rfl, hb3⟩
      have C3 := Lib.hid (below_then C1.out hb3)
      have Y3 := Lib.hid (Y1.out.below hb3)
      clear hb3 C1 Y1 y1
      go_wp2_with fail
      refine (vParse38 (formE y) P4.out v3 (HG.out _ C3.out).env).mono ?_
      intro e v4 hp
      by_cases hz : (formE y).size ≤ 512
      case neg =>
        rw [parse_none hz] at hp
        obtain ⟨er, hne0, rfl, hbp⟩ := hp
        have hz1 : ¬ ((formE y).size : Int) ≤ 512 := by omega
        have C4 := Lib.hid (below_new (below_then C3.out hbp) (below_then C3.out hbp).size (.cells xZ 25))
        have Y4 := Lib.hid ((Y3.out.below hbp).below ((Below.refl v4.heap.size v4).alloc (Nat.le_refl _) (.cells xZ 25)))
        have y1 := ld_x Y4.out.blk
        clear hbp hne0 hz C3 Y3
        go_wp2_with fail
        generalize v4.alloc (.cells xZ 25) = v5 at *
        refine (vcheckX y my v5 Y4.out.val).mono ?_
        rintro e v6 ⟨rfl, hb6⟩
        rw [P1.out]
        have C6 := Lib.hid (below_then C4.out hb6)
        have Y6 := Lib.hid (Y4.out.below hb6)
        clear hb6 C4 Y4 y1
        have y1 := ld_x Y6.out.blk
        go_wp2_with fail
        refine (vFormat38 y my v6 Y6.out.val (fun _ => ⟨P2.out, P3.out⟩) (HG.out _ C6.out).env).mono ?_
        rintro e v7 ⟨rfl, hb7⟩
        have C7 := Lib.hid (below_then C6.out hb7)
        clear hb7 C6 Y6 y1
        go_wp2_with fail
        refine (vbegun _ (HG.out _ C7.out)).mono ?_
        rintro e v8 ⟨rfl, hbv⟩
        go_wp2_with fail
        go_ret
        exact ⟨rfl, below_then C7.out hbv⟩
      case pos =>
        rw [back_c P1.out P2.out hz] at hp
        obtain ⟨mz, rfl, hxz, hbp⟩ := hp
        have hz1 : ((formE y).size : Int) ≤ 512 := by omega
        have C4 := Lib.hid (below_new (below_then C3.out hbp) (below_then C3.out hbp).size (.cells (xC mz) 25))
        have Y4 := Lib.hid ((Y3.out.below hbp).below ((Below.refl v4.heap.size v4).alloc (Nat.le_refl _) (.cells (xC mz) 25)))
        have Z4 := Lib.hid (XH.new (hxz.v (B := v4.heap.size) (fun i hi => hi.2)))
        have y1 := ld_x Y4.out.blk
        clear hbp hxz hz C3 Y3
        go_wp2_with fail
        generalize v4.alloc (.cells (xC mz) 25) = v5 at *
        generalize v4.heap.size = gz at *
        refine (vcheckX y my v5 Y4.out.val).mono ?_
        rintro e v6 ⟨rfl, hb6⟩
        rw [P1.out]
        have C6 := Lib.hid (below_then C4.out hb6)
        have Y6 := Lib.hid (Y4.out.below hb6)
        have Z6 := Lib.hid (Z4.out.below hb6)
        clear hb6 C4 Y4 y1 Z4
        have y1 := ld_x Y6.out.blk
        go_wp2_with fail
        refine (vFormat38 y my v6 Y6.out.val (fun _ => ⟨P2.out, P3.out⟩) (HG.out _ C6.out).env).mono ?_
        rintro e v7 ⟨rfl, hb7⟩
        have C7 := Lib.hid (below_then C6.out hb7)
        have Y7 := Lib.hid (Y6.out.below hb7)
        have Z7 := Lib.hid (Z6.out.below hb7)
        clear hb7 C6 Y6 y1 Z6
        have y1 := ld_x Y7.out.blk
        have z1 := ld_x Z7.out.blk
        go_wp2_with fail
        refine (vsameX _ y (Nat.le_refl _) my mz v7 Y7.out.val Z7.out.val).mono ?_
        rintro e v8 ⟨rfl, hb8⟩
        have C8 := Lib.hid (below_then C7.out hb8)
        clear hb8 C7 Y7 Z7 y1 z1
        go_wp2_with fail
        refine (vbegun _ (HG.out _ C8.out)).mono ?_
        rintro e v9 ⟨rfl, hbv⟩
        go_wp2_with fail
        go_ret
        exact ⟨rfl, below_then C8.out hbv⟩
  case pos =>
  have CK := Lib.hid hc
  rw [hc]
  clear hc
  by_cases hz : (formE a).size ≤ 512
  case neg =>
    have hz1 : ¬ ((formE a).size : Int) ≤ 512 := by omega
    clear hz
    go_wp2_with fail
    refine (vParse38 raw HRW.out w5 (HG.out _ B5.out).env).mono ?_
    intro e v1 hp
    cases hq : parseC raw with
    | none =>
      rw [hq] at hp
      obtain ⟨er, hne0, rfl, hbp⟩ := hp
      have hne1 : (er == 0) = false := by simpa using hne0
      have C1 := Lib.hid (below_new (below_then B5.out hbp) (below_then B5.out hbp).size (.cells xZ 25))
      clear hbp hne0
      go_wp2_with fail
      refine (vbegun _ (HG.out _ C1.out)).mono ?_
      rintro e v2 ⟨rfl, hbv⟩
      go_wp2_with fail
      go_ret
      exact ⟨rfl, below_then C1.out hbv⟩
    | some y =>
      rw [hq] at hp
      obtain ⟨my, rfl, hxy, hbp⟩ := hp
      obtain ⟨p1, p2, p3, p4⟩ := parse_some hq
      have P1 := Lib.hid p1
      have P2 := Lib.hid p2
      have P3 := Lib.hid p3
      have P4 := Lib.hid p4
      have C1 := Lib.hid (below_new (below_then B5.out hbp) (below_then B5.out hbp).size (.cells (xC my) 25))
      have Y1 := Lib.hid (XH.new (hxy.v (B := v1.heap.size) (fun i hi => hi.2)))
      have y1 := ld_x Y1.out.blk
      clear hbp hxy p1 p2 p3 p4 hq
      go_wp2_with fail
      generalize v1.alloc (.cells (xC my) 25) = v2 at *
      generalize v1.heap.size = gy at *
      refine (vFormat38 y my v2 Y1.out.val (fun _ => ⟨P2.out, P3.out⟩) (HG.out _ C1.out).env).mono ?_
      rintro e v3 ⟨rfl, hb3⟩
      have C3 := Lib.hid (below_then C1.out hb3)
      have Y3 := Lib.hid (Y1.out.below hb3)
      clear hb3 C1 Y1 y1
      go_wp2_with fail
      refine (vParse38 (formE y) P4.out v3 (HG.out _ C3.out).env).mono ?_
      intro e v4 hp
      by_cases hz : (formE y).size ≤ 512
      case neg =>
        rw [parse_none hz] at hp
        obtain ⟨er, hne0, rfl, hbp⟩ := hp
        have hz1 : ¬ ((formE y).size : Int) ≤ 512 := by omega
        have C4 := Lib.hid (below_new (below_then C3.out hbp) (below_then C3.out hbp).size (.cells xZ 25))
        have Y4 := Lib.hid ((Y3.out.below hbp).below ((Below.refl v4.heap.size v4).alloc (Nat.le_refl _) (.cells xZ 25)))
        have y1 := ld_x Y4.out.blk
        clear hbp hne0 hz C3 Y3
        go_wp2_with fail
        generalize v4.alloc (.cells xZ 25) = v5 at *
        refine (vcheckX y my v5 Y4.out.val).mono ?_
        rintro e v6 ⟨rfl, hb6⟩
        rw [P1.out]
        have C6 := Lib.hid (below_then C4.out hb6)
        have Y6 := Lib.hid (Y4.out.below hb6)
        clear hb6 C4 Y4 y1
        have y1 := ld_x Y6.out.blk
        go_wp2_with fail
        refine (vFormat38 y my v6 Y6.out.val (fun _ => ⟨P2.out, P3.out⟩) (HG.out _ C6.out).env).mono ?_
        rintro e v7 ⟨rfl, hb7⟩
        have C7 := Lib.hid (below_then C6.out hb7)
        clear hb7 C6 Y6 y1
        go_wp2_with fail
        refine (vbegun _ (HG.out _ C7.out)).mono ?_
        rintro e v8 ⟨rfl, hbv⟩
        go_wp2_with fail
        go_ret
        exact ⟨rfl, below_then C7.out hbv⟩
      case pos =>
        rw [back_c P1.out P2.out hz] at hp
        obtain ⟨mz, rfl, hxz, hbp⟩ := hp
        have hz1 : ((formE y).size : Int) ≤ 512 := by omega
        have C4 := Lib.hid (below_new (below_then C3.out hbp) (below_then C3.out hbp).size (.cells (xC mz) 25))
        have Y4 := Lib.hid ((Y3.out.below hbp).below ((Below.refl v4.heap.size v4).alloc (Nat.le_refl _) (.cells (xC mz) 25)))
        have Z4 := Lib.hid (XH.new (hxz.v (B := v4.heap.size) (fun i hi => hi.2)))
        have y1 := ld_x Y4.out.blk
        clear hbp hxz hz C3 Y3
        go_wp2_with fail
        generalize v4.alloc (.cells (xC mz) 25) = v5 at *
        generalize v4.heap.size = gz at *
        refine (vcheckX y my v5 Y4.out.val).mono ?_
        rintro e v6 ⟨rfl, hb6⟩
        rw [P1.out]
        have C6 := Lib.hid (below_then C4.out hb6)
        have Y6 := Lib.hid (Y4.out.below hb6)
        have Z6 := Lib.hid (Z4.out.below hb6)
        clear hb6 C4 Y4 y1 Z4
        have y1 := ld_x Y6.out.blk
        go_wp2_with fail
        refine (vFormat38 y my v6 Y6.out.val (fun _ => ⟨P2.out, P3.out⟩) (HG.out _ C6.out).env).mono ?_
        rintro e v7 ⟨rfl, hb7⟩
        have C7 := Lib.hid (below_then C6.out hb7)
        have Y7 := Lib.hid (Y6.out.below hb7)
        have Z7 := Lib.hid (Z6.out.below hb7)
        clear hb7 C6 Y6 y1 Z6
        have y1 := ld_x Y7.out.blk
        have z1 := ld_x Z7.out.blk
        go_wp2_with fail
        refine (vsameX _ y (Nat.le_refl _) my mz v7 Y7.out.val Z7.out.val).mono ?_
        rintro e v8 ⟨rfl, hb8⟩
        have C8 := Lib.hid (below_then C7.out hb8)
        clear hb8 C7 Y7 Z7 y1 z1
        go_wp2_with fail
        refine (vbegun _ (HG.out _ C8.out)).mono ?_
        rintro e v9 ⟨rfl, hbv⟩
        go_wp2_with fail
        go_ret
        exact ⟨rfl, below_then C8.out hbv⟩
  case pos =>
  have HPC := Lib.hid (back_c CK.out NA.out hz)
  have HZ := Lib.hid hz
  have hz1 : ((formE a).size : Int) ≤ 512 := by omega
  have hne := form_ne CK.out NA.out
  clear hz
  go_wp2_with fail
  refine (vParse38 (formE a) (by have := HZ.out; unfold maxLen; omega) w5 (HG.out _ B5.out).env).mono ?_
  intro e w6 hp
  rw [HPC.out] at hp
  obtain ⟨mb, rfl, hx, hb6⟩ := hp
  have B6 := Lib.hid (below_new (below_then B5.out hb6) (below_then B5.out hb6).size (.cells (xC mb) 25))
  have K6 := Lib.hid ((K5.out.below hb6).below ((Below.refl w6.heap.size w6).alloc (Nat.le_refl _) (.cells (xC mb) 25)))
  have L6 := Lib.hid (XH.new (hx.v (B := w6.heap.size) (fun i hi => hi.2)))
  have l1 := ld_x K6.out.blk
  have l2 := ld_x L6.out.blk
  clear hx hb6 B5 K5
  go_wp2_with fail
  generalize w6.alloc (.cells (xC mb) 25) = w7 at *
  generalize w6.heap.size = gb at *
  refine (vsameX _ a (Nat.le_refl _) ma mb w7 K6.out.val L6.out.val).mono ?_
  rintro e w8 ⟨rfl, hb8⟩
  have B8 := Lib.hid (below_then B6.out hb8)
  clear hb8 B6 K6 L6 l1 l2
  go_wp2_with fail
  refine (vParse38 raw HRW.out w8 (HG.out _ B8.out).env).mono ?_
  intro e v1 hp
  cases hq : parseC raw with
  | none =>
    rw [hq] at hp
    obtain ⟨er, hne0, rfl, hbp⟩ := hp
    have hne1 : (er == 0) = false := by simpa using hne0
    have C1 := Lib.hid (below_new (below_then B8.out hbp) (below_then B8.out hbp).size (.cells xZ 25))
    clear hbp hne0
    go_wp2_with fail
    refine (vbegun _ (HG.out _ C1.out)).mono ?_
    rintro e v2 ⟨rfl, hbv⟩
    go_wp2_with fail
    go_ret
    exact ⟨rfl, below_then C1.out hbv⟩
  | some y =>
    rw [hq] at hp
    obtain ⟨my, rfl, hxy, hbp⟩ := hp
    obtain ⟨p1, p2, p3, p4⟩ := parse_some hq
    have P1 := Lib.hid p1
    have P2 := Lib.hid p2
    have P3 := Lib.hid p3
    have P4 := Lib.hid p4
    have C1 := Lib.hid (below_new (below_then B8.out hbp) (below_then B8.out hbp).size (.cells (xC my) 25))
    have Y1 := Lib.hid (XH.new (hxy.v (B := v1.heap.size) (fun i hi => hi.2)))
    have y1 := ld_x Y1.out.blk
    clear hbp hxy p1 p2 p3 p4 hq
    go_wp2_with fail
    generalize v1.alloc (.cells (xC my) 25) = v2 at *
    generalize v1.heap.size = gy at *
    refine (vFormat38 y my v2 Y1.out.val (fun _ => ⟨P2.out, P3.out⟩) (HG.out _ C1.out).env).mono ?_
    rintro e v3 ⟨rfl, hb3⟩
    have C3 := Lib.hid (below_then C1.out hb3)
    have Y3 := Lib.hid (Y1.out.below hb3)
    clear hb3 C1 Y1 y1
    go_wp2_with fail
    refine (vParse38 (formE y) P4.out v3 (HG.out _ C3.out).env).mono ?_
    intro e v4 hp
    by_cases hz : (formE y).size ≤ 512
    case neg =>
      rw [parse_none hz] at hp
      obtain ⟨er, hne0, rfl, hbp⟩ := hp
      have hz1 : ¬ ((formE y).size : Int) ≤ 512 := by omega
      have C4 := Lib.hid (below_new (below_then C3.out hbp) (below_then C3.out hbp).size (.cells xZ 25))
      have Y4 := Lib.hid ((Y3.out.below hbp).below ((Below.refl v4.heap.size v4).alloc (Nat.le_refl _) (.cells xZ 25)))
      have y1 := ld_x Y4.out.blk
      clear hbp hne0 hz C3 Y3
      go_wp2_with fail
      generalize v4.alloc (.cells xZ 25) = v5 at *
      refine (vcheckX y my v5 Y4.out.val).mono ?_
      rintro e v6 ⟨rfl, hb6⟩
      rw [P1.out]
      have C6 := Lib.hid (below_then C4.out hb6)
      have Y6 := Lib.hid (Y4.out.below hb6)
      clear hb6 C4 Y4 y1
      have y1 := ld_x Y6.out.blk
      go_wp2_with fail
      refine (vFormat38 y my v6 Y6.out.val (fun _ => ⟨P2.out, P3.out⟩) (HG.out _ C6.out).env).mono ?_
      rintro e v7 ⟨rfl, hb7⟩
      have C7 := Lib.hid (below_then C6.out hb7)
      clear hb7 C6 Y6 y1
      go_wp2_with fail
      refine (vbegun _ (HG.out _ C7.out)).mono ?_
      rintro e v8 ⟨rfl, hbv⟩
      go_wp2_with fail
      go_ret
      exact ⟨rfl, below_then C7.out hbv⟩
    case pos =>
      rw [back_c P1.out P2.out hz] at hp
      obtain ⟨mz, rfl, hxz, hbp⟩ := hp
      have hz1 : ((formE y).size : Int) ≤ 512 := by omega
      have C4 := Lib.hid (below_new (below_then C3.out hbp) (below_then C3.out hbp).size (.cells (xC mz) 25))
      have Y4 := Lib.hid ((Y3.out.below hbp).below ((Below.refl v4.heap.size v4).alloc (Nat.le_refl _) (.cells (xC mz) 25)))
      have Z4 := Lib.hid (XH.new (hxz.v (B := v4.heap.size) (fun i hi => hi.2)))
      have y1 := ld_x Y4.out.blk
      clear hbp hxz hz C3 Y3
      go_wp2_with fail
      generalize v4.alloc (.cells (xC mz) 25) = v5 at *
      generalize v4.heap.size = gz at *
      refine (vcheckX y my v5 Y4.out.val).mono ?_
      rintro e v6 ⟨rfl, hb6⟩
      rw [P1.out]
      have C6 := Lib.hid (below_then C4.out hb6)
      have Y6 := Lib.hid (Y4.out.below hb6)
      have Z6 := Lib.hid (Z4.out.below hb6)
      clear hb6 C4 Y4 y1 Z4
      have y1 := ld_x Y6.out.blk
      go_wp2_with fail
      refine (vFormat38 y my v6 Y6.out.val (fun _ => ⟨P2.out, P3.out⟩) (HG.out _ C6.out).env).mono ?_
      rintro e v7 ⟨rfl, hb7⟩
      have C7 := Lib.hid (below_then C6.out hb7)
      have Y7 := Lib.hid (Y6.out.below hb7)
      have Z7 := Lib.hid (Z6.out.below hb7)
      clear hb7 C6 Y6 y1 Z6
      have y1 := ld_x Y7.out.blk
      have z1 := ld_x Z7.out.blk
      go_wp2_with fail
      refine (vsameX _ y (Nat.le_refl _) my mz v7 Y7.out.val Z7.out.val).mono ?_
      rintro e v8 ⟨rfl, hb8⟩
      have C8 := Lib.hid (below_then C7.out hb8)
      clear hb8 C7 Y7 Z7 y1 z1
      go_wp2_with fail
      refine (vbegun _ (HG.out _ C8.out)).mono ?_
      rintro e v9 ⟨rfl, hbv⟩
      go_wp2_with fail
      go_ret
      exact ⟨rfl, below_then C8.out hbv⟩
end Go.Proofs.YtpldopoeopjcoaaGreatDoor
/- The last step of a law's row: the call returned true and left what was there. -/
namespace Go.Proofs.YtpldopoeopjcoaaGreatDoor
open Go.ChangeShapes Go.WideShapes Go.ChangeAt Go.RowKit
theorem vars_at {P : Program} {w : World} : ∀ {l : List (String × DataW Unit)} {ps : List MemPlace}, DataW.LaidVars P w l ps → ∀ (i : Nat) (n : String) (d : DataW Unit), l[i]? = some (n, d) →
    ∃ g t cs fuel p, P.globalNamed n = some g ∧ (P.globals[g]?).map (·.type) = some t ∧ w.var? P n = some cs ∧ DataW.trod (fun _ => ()) P w 0 (fun _ => true) false fuel t cs.toList = some (d, p)
  | [], _, _, i, n, d, hm => by simp at hm
  | (n', d') :: r, ps, h, i, n, d, hm => by
    obtain ⟨g, t, cs, fuel, p, q, h1, h2, h3, h4, h5, _⟩ := h
    match i, hm with
    | 0, hm =>
      simp at hm
      obtain ⟨rfl, rfl⟩ := hm
      exact ⟨g, t, cs, fuel, p, h1, h2, h3, h4⟩
    | i + 1, hm => exact vars_at h5 i n d (by simpa using hm)
/-- A listed table of integers, out of the row's condition. -/
theorem tab_of_laid {P : Program} {W : World} {laid : List (String × DataW Unit)} {name : String} {k : IntKind} {zs : List Int} {g : Nat} {t e : TypeId} {n : Nat} (i : Nat)
    (hpl : (laid.all fun x => x.2.handleName?.isNone) = true) (h : laidMetH P laid W) (hi : laid[i]? = some (name, Lib.tabData k zs))
    (hg : P.globalNamed name = some g) (hty : (P.globals[g]?).map (·.type) = some t) (ht : P.underlying t = some (.array n e)) (he : P.underlying e = some (.int k)) (hce : P.cellsOf e = 1) (hct : P.cellsOf t = n) : Lib.TabIs P W name k zs := by
  rw [MakeChecks.laidMetH_plain _ _ _ hpl] at h
  obtain ⟨ps, hv, _⟩ := h
  obtain ⟨g', t', cs, fuel, p, hg', ht', hvar, hd⟩ := vars_at hv i name _ hi
  obtain rfl := Option.some.inj (hg.symm.trans hg')
  obtain rfl := Option.some.inj (hty.symm.trans ht')
  unfold Lib.TabIs
  rw [hvar, ← Lib.cells_of_tab ht he hce hct hd]
section
variable {H : Type} {enc : TypeId × Value → H} {P : Program}
/-- Arguments read as they did, where nothing that was there has changed. -/
theorem trodAll_stays (hl : laidOutB P = true) {W W' : World} (hb : Below W.heap.size W W') : ∀ {ts : List TypeId} {vs : List Value} {ds : List (DataW H)} {ps : List MemPlace},
    (∀ t ∈ ts, P.readableRec t = true ∧ t < P.types.size) → DataW.TrodAll enc P W 0 (fun _ => true) true ts vs ds ps → (∀ x ∈ ps, x.block < W.heap.size) →
    DataW.TrodAll enc P W' 0 (fun b => decide (b < W.heap.size)) true ts vs ds ps
  | [], vs, ds, ps, _, h, _ => by
    obtain ⟨rfl, rfl, rfl⟩ := trodAll_nil h
    exact trodAll_mk0
  | t :: ts, vs, ds, ps, ht, h, hlt => by
    obtain ⟨v, vs1, d, ds1, p, q, rfl, rfl, rfl, h1, h2⟩ := trodAll_cons h
    have hh := ht t List.mem_cons_self
    exact trodAll_cons_mk (Below.trod hl hh.1 hh.2 h1 hb fun x hx => hlt x (List.mem_append_left _ hx))
      (trodAll_stays hl hb (fun u hu => ht u (List.mem_cons_of_mem _ hu)) h2 fun x hx => hlt x (List.mem_append_right _ hx))
theorem law_mono {f : FuncId} {args : Array Value} {W : World} {Q : Ending → World → Prop} (h : Calls P f args W fun e w' => e = .returned (.bool true) ∧ Below W.heap.size W w')
    (k : ∀ W', Below W.heap.size W W' → Q (.returned (.bool true)) W') : Calls P f args W Q := h.mono fun _ w' hh => hh.1 ▸ k w' hh.2
theorem post_law {f : Func} {s : ChangeSpec} {W W' : World} {args : Array Value} {ds gs : List (DataW H)} {before : List MemPlace} {b : TypeId}
    (hl : laidOutB P = true) (hp : (f.params.toList.all fun t => P.readableRec t && decide (t < P.types.size)) = true) (hr : f.resultTypes = #[b]) (hbool : P.underlying b = some .bool)
    (hW : DataW.Whole enc P f.params.toList s.vars false W args.toList ds gs before) (hv : s.vars = []) (hfn : s.fn H (ds ++ gs) = { results := [.lit (.bool true)], args := ds }) (hb : Below W.heap.size W W') :
    s.post enc P f false true false false W args (.bool true) W' := by
  have hlt : ∀ p ∈ before, p.block < W.heap.size := fun p hp => hW.lt p hp
  obtain ⟨p, q, hA, hV, rfl, hfz, hnd⟩ := id hW
  have hV' := hV
  rw [hv] at hV'
  obtain ⟨rfl, rfl⟩ := trodVars_none hV'
  refine ⟨ds, [], _, [], p, [], hW, ?_, ?_, ?_, hb.frame _, fun h => by cases h⟩
  · rw [hfn, hr]
    exact trodAll_mk1 (shut_bool hbool _)
  · rw [hfn]
    exact trodAll_stays hl hb (fun t ht => by simpa using List.all_eq_true.1 hp t ht) hA fun x hx => hlt x (List.mem_append_left _ hx)
  · rw [hfn, hv]; rfl
/-- An argument that is a slice of numbers: what a source of numbers asks of it. -/
theorem ints_arg {W : World} {base : Nat} {t e : TypeId} {v : Value} {d : DataW H} {p : List MemPlace} (ht : P.underlying t = some (.slice e)) (he : P.underlying e = some (.int .i64)) (hc : P.cellsOf e = 1)
    (hv : Value.okWide P W .any base t v) (h : DataW.Trod enc P W 0 (fun _ => true) true t v d p) (hlt : ∀ x ∈ p, x.block < W.heap.size) :
    ∃ (A : Option Addr) (n c : Nat), v = .slice A n c ∧ (n : Int) ≤ 9223372036854775807 ∧ ∀ k, k < n → ∃ (ad : Addr) (z : Int), A = some ad ∧ ad.block < W.heap.size ∧ W.cell? (ad.add k) = some (.int .i64 z) ∧ -9223372036854775808 ≤ z ∧ z ≤ 9223372036854775807 := by
  obtain ⟨a0, len, cap, rfl⟩ := okWide_slice ht hv
  obtain ⟨fuel, hf⟩ := h
  rcases open_ints ht he hc hf with ⟨hcs, hx⟩ | ⟨a, len', cap', zs, hcs, _, hl, hm, hz, hx, hcell, hwz⟩
  · simp [Value.cells] at hcs
    obtain ⟨rfl, rfl, rfl⟩ := hcs
    exact ⟨none, 0, 0, rfl, by omega, fun k hk => by omega⟩
  · simp [Value.cells] at hcs
    obtain ⟨rfl, rfl, rfl⟩ := hcs
    simp only [if_true] at hz
    unfold maxLen at hm
    refine ⟨some a, len, cap, rfl, by omega, fun k hk => ?_⟩
    have hkz : k < zs.length := by omega
    have hw := bounds_i64 (hwz (zs.getD k 0) (by rw [List.getD_eq_getElem?_getD, List.getElem?_eq_getElem hkz]; exact List.getElem_mem hkz))
    refine ⟨a, zs.getD k 0, rfl, ?_, hcell k hkz, hw.1, hw.2⟩
    injection hx with _ hp
    have hmem : MemPlace.cell a.block (a.off + 0) ∈ p := by
      rw [hp]; unfold MemPlace.row; simp; omega
    exact hlt _ hmem
end
end Go.Proofs.YtpldopoeopjcoaaGreatDoor

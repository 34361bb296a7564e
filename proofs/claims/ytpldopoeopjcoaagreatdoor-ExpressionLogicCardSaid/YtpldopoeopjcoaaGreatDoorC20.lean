/- Texts of one proof, laid together. -/
import Derived.Test.YtpldopoeopjcoaaGreatDoorC19
/- The truth of expressions that are made of others: plain; not and two of the law. -/
namespace Go.Proofs.YtpldopoeopjcoaaGreatDoor
open Go.RowKit
def notX (x : Ex) : Ex := .mk 3 0 0 0 ⟨#[]⟩ ⟨#[]⟩ [x]
def twoX (op : Int) (x y : Ex) : Ex := .mk op 0 0 0 ⟨#[]⟩ ⟨#[]⟩ [x, y]
def V3 (v : Int) : Prop := v = 1 ∨ v = 2 ∨ v = 3
theorem ev_not (ps : List Pr) (x : Ex) : evX ps (notX x) = notV (evX ps x) := by
  unfold notX
  rw [evX_eq]
  unfold evN
  rw [if_neg (by decide), if_neg (by decide), if_pos rfl]
  rfl
theorem ev_and (ps : List Pr) (x y : Ex) : evX ps (twoX 1 x y) = foldB 2 [evX ps x, evX ps y] 1 := by
  unfold twoX
  rw [evX_eq]
  unfold evN
  rw [if_neg (by decide), if_neg (by decide), if_neg (by decide), if_neg (by decide)]
  rfl
theorem ev_or (ps : List Pr) (x y : Ex) : evX ps (twoX 2 x y) = foldB 1 [evX ps x, evX ps y] 2 := by
  unfold twoX
  rw [evX_eq]
  unfold evN
  rw [if_neg (by decide), if_neg (by decide), if_neg (by decide), if_pos rfl]
  rfl
theorem notV_3 {v : Int} (h : V3 v) : V3 (notV v) := by
  unfold V3 notV
  rcases h with rfl | rfl | rfl <;> decide
theorem foldB_3 {s : Int} (hs : V3 s) : ∀ {l : List Int} {r : Int}, (∀ v ∈ l, V3 v) → V3 r → V3 (foldB s l r)
  | [], _, _, hr => hr
  | v :: l, r, hl, hr => by
    unfold foldB
    split
    · exact hs
    · refine foldB_3 hs (fun u hu => hl u (List.mem_cons_of_mem _ hu)) ?_
      split
      · exact .inr (.inr rfl)
      · exact hr
theorem evT_3 (m : Xe) : ∀ (ps : List Pr) (r : Int), V3 r → V3 (ps.foldl (stepT m) r)
  | [], _, h => h
  | p :: ps, r, h => by
    rw [List.foldl_cons]
    refine evT_3 m ps _ ?_
    unfold stepT
    split
    · split
      · exact .inl rfl
      · exact .inr (.inl rfl)
    · exact h
theorem evX_3 (ps : List Pr) : ∀ (n : Nat) (x : Ex), SizeOf.sizeOf x ≤ n → soundX x = true → V3 (evX ps x)
  | 0, .mk _ _ _ _ _ _ _, h, _ => by simp at h
  | n + 1, .mk op cm kd nu nm tx ls, h, hs => by
    rw [soundX_eq] at hs
    simp only [Bool.and_eq_true] at hs
    obtain ⟨hl, hh⟩ := hs
    have hk : ∀ v ∈ ls.map (evX ps), V3 v := fun v hv => by
      obtain ⟨y, hy, rfl⟩ := List.mem_map.1 hv
      obtain ⟨k, hk, rfl⟩ := List.getElem_of_mem hy
      exact evX_3 ps n _ (by have := size_at (op := op) (cm := cm) (kd := kd) (nu := nu) (nm := nm) (tx := tx) hk; omega) (soundL_all hl k hk)
    rw [evX_eq]
    unfold evN
    split
    · exact evT_3 _ _ _ (.inr (.inr rfl))
    · split
      · unfold evH
        split
        · exact .inl rfl
        · exact .inr (.inl rfl)
      · split
        · refine notV_3 ?_
          cases hls : ls.map (evX ps) with
          | nil => exact .inr (.inr rfl)
          | cons a r => exact hk a (by rw [hls]; exact List.mem_cons_self ..)
        · split
          · exact foldB_3 (.inl rfl) hk (.inr (.inl rfl))
          · exact foldB_3 (.inr (.inl rfl)) hk (.inl rfl)
theorem two_sound {op : Int} {x y : Ex} (ho : op = 1 ∨ op = 2) (hx : soundX x = true) (hy : soundX y = true) : soundX (twoX op x y) = true := by
  unfold twoX
  rw [soundX_eq, soundL_cons, soundL_cons, hx, hy, soundL]
  rcases ho with rfl | rfl <;> (show (true && (true && true) && headX _ 0 0 0 ⟨#[]⟩ ⟨#[]⟩ 2) = true; decide +kernel)
theorem not_sound {x : Ex} (hx : soundX x = true) : soundX (notX x) = true := by
  unfold notX
  rw [soundX_eq, soundL_cons, hx, soundL]
  show (true && true && headX 3 0 0 0 ⟨#[]⟩ ⟨#[]⟩ 1) = true
  decide +kernel
theorem two_sz (op : Int) (x y : Ex) : cntL [twoX op x y] = 1 + cntL [x] + cntL [y] ∧ depL [twoX op x y] = 1 + max (depL [x]) (depL [y]) := by
  unfold twoX
  rw [cntL_cons, depL_cons, cntL_nil, depL_nil, cntL_one x [y], depL_one x [y]]
  omega
theorem not_sz (x : Ex) : cntL [notX x] = 1 + cntL [x] ∧ depL [notX x] = 1 + depL [x] := by
  unfold notX
  rw [cntL_cons, depL_cons, cntL_nil, depL_nil]
  omega
theorem eval_fit {x : Ex} (ps : List Pr) (hs : soundX x = true) (hd : depL [x] ≤ 6) (hc : cntL [x] ≤ 24) : evalE x ps = evX ps x := by
  unfold evalE
  rw [if_pos (check_fit hs hd hc)]
/-- What ExpressionLogic says of the values of the expressions that it makes. -/
structure LogV (ps : List Pr) (a b : Ex) (va vb vA vO : Int) : Prop where
  ha : V3 va
  hb : V3 vb
  ea : evalE a ps = va
  eb : evalE b ps = vb
  nna : evalE (notX (notX a)) ps = va
  aa : evalE (twoX 1 a a) ps = va
  oa : evalE (twoX 2 a a) ps = va
  ab : evalE (twoX 1 a b) ps = vA
  ba : evalE (twoX 1 b a) ps = vA
  nab : evalE (notX (twoX 1 a b)) ps = notV vA
  onn : evalE (twoX 2 (notX a) (notX b)) ps = notV vA
  nob : evalE (notX (twoX 2 a b)) ps = notV vO
  ann : evalE (twoX 1 (notX a) (notX b)) ps = notV vO
  ob : evalE (twoX 2 a b) ps = vO
  hA : (vA == 1) = (va == 1 && vb == 1)
  hO : (vO == 1) = (va == 1 || vb == 1)
theorem log_v (ps : List Pr) {a b : Ex} (ga : GoodM 1 a) (gb : GoodM 1 b) : ∃ va vb vA vO, LogV ps a b va vb vA vO := by
  obtain ⟨sa, _, da, ca⟩ := ga
  obtain ⟨sb, _, db, cb⟩ := gb
  have ca := ca (by omega)
  have cb := cb (by omega)
  have va := evX_3 ps _ a (Nat.le_refl _) sa
  have vb := evX_3 ps _ b (Nat.le_refl _) sb
  have n1 := not_sz a
  have n2 := not_sz b
  have n3 := not_sz (notX a)
  have t1 := two_sz 1 a a
  have t2 := two_sz 2 a a
  have t3 := two_sz 1 a b
  have t4 := two_sz 1 b a
  have t5 := two_sz 2 a b
  have t6 := two_sz 2 (notX a) (notX b)
  have t7 := two_sz 1 (notX a) (notX b)
  have n4 := not_sz (twoX 1 a b)
  have n5 := not_sz (twoX 2 a b)
  have o1 : (1 : Int) = 1 ∨ (1 : Int) = 2 := .inl rfl
  have o2 : (2 : Int) = 1 ∨ (2 : Int) = 2 := .inr rfl
  refine ⟨evX ps a, evX ps b, foldB 2 [evX ps a, evX ps b] 1, foldB 1 [evX ps a, evX ps b] 2, va, vb, eval_fit ps sa (by omega) (by omega), eval_fit ps sb (by omega) (by omega), ?_, ?_, ?_, ?_, ?_, ?_, ?_, ?_, ?_, ?_, ?_, ?_⟩
  · rw [eval_fit ps (not_sound (not_sound sa)) (by omega) (by omega), ev_not, ev_not]
    rcases va with h | h | h <;> (rw [h]; rfl)
  · rw [eval_fit ps (two_sound o1 sa sa) (by omega) (by omega), ev_and]
    rcases va with h | h | h <;> (rw [h]; rfl)
  · rw [eval_fit ps (two_sound o2 sa sa) (by omega) (by omega), ev_or]
    rcases va with h | h | h <;> (rw [h]; rfl)
  · rw [eval_fit ps (two_sound o1 sa sb) (by omega) (by omega), ev_and]
  · rw [eval_fit ps (two_sound o1 sb sa) (by omega) (by omega), ev_and]
    rcases va with h | h | h <;> rcases vb with k | k | k <;> (rw [h, k] <;> rfl)
  · rw [eval_fit ps (not_sound (two_sound o1 sa sb)) (by omega) (by omega), ev_not, ev_and]
  · rw [eval_fit ps (two_sound o2 (not_sound sa) (not_sound sb)) (by omega) (by omega), ev_or, ev_not, ev_not]
    rcases va with h | h | h <;> rcases vb with k | k | k <;> (rw [h, k] <;> rfl)
  · rw [eval_fit ps (not_sound (two_sound o2 sa sb)) (by omega) (by omega), ev_not, ev_or]
  · rw [eval_fit ps (two_sound o1 (not_sound sa) (not_sound sb)) (by omega) (by omega), ev_and, ev_not, ev_not]
    rcases va with h | h | h <;> rcases vb with k | k | k <;> (rw [h, k] <;> rfl)
  · rw [eval_fit ps (two_sound o2 sa sb) (by omega) (by omega), ev_or]
  · rcases va with h | h | h <;> rcases vb with k | k | k <;> (rw [h, k] <;> rfl)
  · rcases va with h | h | h <;> rcases vb with k | k | k <;> (rw [h, k] <;> rfl)
theorem ExV.bel {w w' : World} {x : Ex} {m : Xe} (h : ExV w w.heap.size x m) (hb : Below w.heap.size w w') : ExV w' w'.heap.size x m := (h.keep (fun i hi => hb.block i hi)).more hb.size
def XvPost (x : Ex) (w : World) (e : Ending) (w' : World) : Prop := ∃ m, e = .returned (.agg (xC m)) ∧ ExV w' w'.heap.size x m ∧ Below w.heap.size w w'
abbrev xCC (m n : Xe) : Array Value := #[.int .i64 m.op, .int .i64 m.cm, .int .i64 m.kd, .int .i64 m.nu, .string m.nm, .string m.tx, .slice m.A m.n m.c, .int .i64 n.op, .int .i64 n.cm, .int .i64 n.kd, .int .i64 n.nu, .string n.nm, .string n.tx, .slice n.A n.n n.c]
theorem ate_row {α : Type} {E : El α} {W : World} {g : Nat} {cs : Array Value} {A : Option Addr} {L : List α} (h : AtE E W W.heap.size A L) (hne : ∀ ad, A = some ad → ad.block ≠ g) : AtE E (W.setRow g cs) (W.setRow g cs).heap.size A L := fun k hk => by
  obtain ⟨ad, e, hb, hc⟩ := h k hk
  exact ⟨ad, e, by rw [setRow_size]; exact hb, fun j hj => (World.cell?_of_block (by rw [addE_block, addE_block]; exact setRow_other _ _ _ _ (hne ad e))).trans (hc j hj)⟩
set_option maxRecDepth 100000 in
set_option maxHeartbeats 4000000 in
theorem vnot38 (x : Ex) (m : Xe) (w : World) (hx : ExV w w.heap.size x m) : Calls Tryz.prog 16 #[.agg (xC m)] w (XvPost (notX x) w) := by
  have hs1 : (w.alloc (.cells (xC m) 25)).heap.size = w.heap.size + 1 := by simp
  have hs2 : ((w.alloc (.cells (xC m) 25)).alloc (.cells xZ 25)).heap.size = w.heap.size + 1 + 1 := by simp
  have B3 := Lib.hid ((((Below.refl w.heap.size w).alloc (Nat.le_refl _) (.cells (xC m) 25)).alloc (by rw [hs1]; omega) (.cells xZ 25)).alloc (by rw [hs2]; omega) (.cells (xC m) 25))
  have X1 := Lib.hid ((Blk.new w (xC m) 25).alloc (.cells xZ 25))
  have R3 := Lib.hid (show Blk (((w.alloc (.cells (xC m) 25)).alloc (.cells xZ 25)).alloc (.cells (xC m) 25)) (w.heap.size + 1) 25 xZ by
    have h := (Blk.new (w.alloc (.cells (xC m) 25)) xZ 25).alloc (.cells (xC m) 25)
    rw [hs1] at h
    exact h)
  have ho := OwnE.made EX ((w.alloc (.cells (xC m) 25)).alloc (.cells xZ 25)) (xC m) [m] rfl (base := 0) (Nat.zero_le _) (by show 1 ≤ 1000; omega) (n := 1) rfl
  rw [hs2] at ho
  obtain ⟨A1, c1, e1, hat⟩ := ho.at
  injection e1 with e1 e5 e6
  subst e1
  clear e5 e6
  have HAT := Lib.hid hat
  have HX := Lib.hid hx
  clear hx hs1 hs2 ho hat
  go_enter Tryz.func16, Tryz.ntmps16
  go_wp2_with (first | ((with_reducible refine load_blk ?_ 25 (.tmp 1) ?_ X1.out ?_ _ Tryz.underlying25 ?_ ?_ ?_); (iterate 4 rfl); exact x_sz _) | ((with_reducible refine store_blk ?_ 25 (.tmp 2) (.tmp 5) ?_ R3.out (xC ⟨3, 0, 0, 0, ⟨#[]⟩, ⟨#[]⟩, some ⟨w.heap.size + 1 + 1, 0, none⟩, 1, 1⟩) ?_ ?_ ?_ ?_ ?_ ?_); (iterate 4 rfl); (exact x_sz _); rfl; (exact x_one _)))
  refine bodyPost_ret (x_ret (fn := Tryz.f16) rfl _ _ (w.heap.size + 1) ⟨3, 0, 0, 0, ⟨#[]⟩, ⟨#[]⟩, some ⟨w.heap.size + 1 + 1, 0, none⟩, 1, 1⟩ rfl (Blk.row R3.out _)) rfl ?_
  have hb := below_row B3.out (g := w.heap.size + 1) (by omega) (xC ⟨3, 0, 0, 0, ⟨#[]⟩, ⟨#[]⟩, some ⟨w.heap.size + 1 + 1, 0, none⟩, 1, 1⟩)
  have ha := ate_row (g := w.heap.size + 1) (cs := xC ⟨3, 0, 0, 0, ⟨#[]⟩, ⟨#[]⟩, some ⟨w.heap.size + 1 + 1, 0, none⟩, 1, 1⟩) HAT.out (fun ad e => by injection e with e; subst e; show w.heap.size + 1 + 1 ≠ w.heap.size + 1; omega)
  refine ⟨_, rfl, ExV.mk 3 0 0 0 ⟨#[]⟩ ⟨#[]⟩ [x] _ 1 [m] rfl (by show 1 ≤ 1000000; omega) ⟨by show 0 ≤ maxLen; omega, by show 0 ≤ maxLen; omega⟩ ha (fun k h1 h2 => ?_), hb⟩
  have : k = 0 := by simpa using h1
  subst this
  exact HX.out.bel hb
set_option maxRecDepth 100000 in
set_option maxHeartbeats 4000000 in
theorem vtwo38 (op : Int) (x y : Ex) (m n : Xe) (w : World) (hx : ExV w w.heap.size x m) (hy : ExV w w.heap.size y n) : Calls Tryz.prog 17 #[.int .i64 op, .agg (xC m), .agg (xC n)] w (XvPost (twoX op x y) w) := by
  have hs1 : (w.alloc (.cells (xC m) 25)).heap.size = w.heap.size + 1 := by simp
  have hs2 : ((w.alloc (.cells (xC m) 25)).alloc (.cells (xC n) 25)).heap.size = w.heap.size + 1 + 1 := by simp
  have hs3 : (((w.alloc (.cells (xC m) 25)).alloc (.cells (xC n) 25)).alloc (.cells xZ 25)).heap.size = w.heap.size + 1 + 1 + 1 := by simp
  have B4 := Lib.hid (((((Below.refl w.heap.size w).alloc (Nat.le_refl _) (.cells (xC m) 25)).alloc (by rw [hs1]; omega) (.cells (xC n) 25)).alloc (by rw [hs2]; omega) (.cells xZ 25)).alloc (by rw [hs3]; omega) (.cells (xCC m n) 25))
  have X1 := Lib.hid (((Blk.new w (xC m) 25).alloc (.cells (xC n) 25)).alloc (.cells xZ 25))
  have Y1 := Lib.hid (show Blk (((w.alloc (.cells (xC m) 25)).alloc (.cells (xC n) 25)).alloc (.cells xZ 25)) (w.heap.size + 1) 25 (xC n) by
    have h := (Blk.new (w.alloc (.cells (xC m) 25)) (xC n) 25).alloc (.cells xZ 25)
    rw [hs1] at h
    exact h)
  have R4 := Lib.hid (show Blk ((((w.alloc (.cells (xC m) 25)).alloc (.cells (xC n) 25)).alloc (.cells xZ 25)).alloc (.cells (xCC m n) 25)) (w.heap.size + 1 + 1) 25 xZ by
    have h := (Blk.new ((w.alloc (.cells (xC m) 25)).alloc (.cells (xC n) 25)) xZ 25).alloc (.cells (xCC m n) 25)
    rw [hs2] at h
    exact h)
  have ho := OwnE.made EX (((w.alloc (.cells (xC m) 25)).alloc (.cells (xC n) 25)).alloc (.cells xZ 25)) (xCC m n) [m, n] rfl (base := 0) (Nat.zero_le _) (by show 2 ≤ 1000; omega) (n := 2) rfl
  rw [hs3] at ho
  obtain ⟨A1, c1, e1, hat⟩ := ho.at
  injection e1 with e1 e5 e6
  subst e1
  clear e5 e6
  have HAT := Lib.hid hat
  have HX := Lib.hid hx
  have HY := Lib.hid hy
  clear hx hy hs1 hs2 hs3 ho hat
  go_enter Tryz.func17, Tryz.ntmps17
  go_wp2_with (first | ((with_reducible refine load_blk ?_ 25 (.tmp 4) ?_ X1.out ?_ _ Tryz.underlying25 ?_ ?_ ?_); (iterate 4 rfl); exact x_sz _) | ((with_reducible refine load_blk ?_ 25 (.tmp 5) ?_ Y1.out ?_ _ Tryz.underlying25 ?_ ?_ ?_); (iterate 4 rfl); exact x_sz _) | ((with_reducible refine store_blk ?_ 25 (.tmp 6) (.tmp 11) ?_ R4.out (xC ⟨op, 0, 0, 0, ⟨#[]⟩, ⟨#[]⟩, some ⟨w.heap.size + 1 + 1 + 1, 0, none⟩, 2, 2⟩) ?_ ?_ ?_ ?_ ?_ ?_); (iterate 4 rfl); (exact x_sz _); rfl; (exact x_one _)))
  refine bodyPost_ret (x_ret (fn := Tryz.f17) rfl _ _ (w.heap.size + 1 + 1) ⟨op, 0, 0, 0, ⟨#[]⟩, ⟨#[]⟩, some ⟨w.heap.size + 1 + 1 + 1, 0, none⟩, 2, 2⟩ rfl (Blk.row R4.out _)) rfl ?_
  have hb := below_row B4.out (g := w.heap.size + 1 + 1) (by omega) (xC ⟨op, 0, 0, 0, ⟨#[]⟩, ⟨#[]⟩, some ⟨w.heap.size + 1 + 1 + 1, 0, none⟩, 2, 2⟩)
  have ha := ate_row (g := w.heap.size + 1 + 1) (cs := xC ⟨op, 0, 0, 0, ⟨#[]⟩, ⟨#[]⟩, some ⟨w.heap.size + 1 + 1 + 1, 0, none⟩, 2, 2⟩) HAT.out (fun ad e => by injection e with e; subst e; show w.heap.size + 1 + 1 + 1 ≠ w.heap.size + 1 + 1; omega)
  refine ⟨_, rfl, ExV.mk op 0 0 0 ⟨#[]⟩ ⟨#[]⟩ [x, y] _ 2 [m, n] rfl (by show 2 ≤ 1000000; omega) ⟨by show 0 ≤ maxLen; omega, by show 0 ≤ maxLen; omega⟩ ha (fun k h1 h2 => ?_), hb⟩
  have : k = 0 ∨ k = 1 := by simp at h1; omega
  rcases this with rfl | rfl
  · exact HX.out.bel hb
  · exact HY.out.bel hb
end Go.Proofs.YtpldopoeopjcoaaGreatDoor

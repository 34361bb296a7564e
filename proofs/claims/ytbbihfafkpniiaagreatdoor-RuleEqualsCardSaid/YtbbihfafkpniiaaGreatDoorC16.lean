/- Texts of one proof, laid together. -/
import Derived.Test.YtbbihfafkpniiaaGreatDoorC15
import Derived.Laws.ResultCell
import Derived.Maps.AppendAt
import Derived.Test.YtbbihfafkpniiaaGreatDoorC14
/- Parse of package mask returns readM. -/
namespace Go.Proofs.YtbbihfafkpniiaaGreatDoor
open Go.RowKit Go.Shelf
attribute [local go_sem] Oper.semAt_some
set_option maxHeartbeats 1000000 in
theorem vsplitseq (s : ByteArray) (w : World) : Calls Tryz.prog 127 #[.string s, .string ⟨#[44]⟩, .int .i64 0] w fun e w' => e = .returned (.func (.func 145) #[] #[.pointer (some ⟨w.heap.size + 1, 0, none⟩), .pointer (some ⟨w.heap.size, 0, none⟩), .pointer (some ⟨w.heap.size + 2, 0, none⟩)]) ∧
    w' = ((w.alloc (.cells #[.string s] 9)).alloc (.cells #[.string ⟨#[44]⟩] 9)).alloc (.cells #[.int .i64 0] 3) := by
  go_enter Tryz.func127, Tryz.ntmps127
  go_wp2
  go_ret
  exact ⟨rfl, rfl⟩
set_option maxHeartbeats 1000000 in
theorem vSplitSeq (s : ByteArray) (w : World) : Calls Tryz.prog 108 #[.string s, .string ⟨#[44]⟩] w fun e w' => e = .returned (.func (.func 145) #[] #[.pointer (some ⟨w.heap.size + 1, 0, none⟩), .pointer (some ⟨w.heap.size, 0, none⟩), .pointer (some ⟨w.heap.size + 2, 0, none⟩)]) ∧
    w' = ((w.alloc (.cells #[.string s] 9)).alloc (.cells #[.string ⟨#[44]⟩] 9)).alloc (.cells #[.int .i64 0] 3) := by
  go_enter Tryz.func108, Tryz.ntmps108
  go_wp2_with fail
  refine (vsplitseq s _).mono ?_
  rintro e w' ⟨rfl, rfl⟩
  go_wp2_with fail
  go_ret
  exact ⟨rfl, rfl⟩
def errN (m e : Nat) : Value := .tuple #[.int .u64 (m : Int), .int .i64 (e : Int)]
structure PSt (w : World) (H : Nat) (pre : List ByteArray) (W : World) : Prop where
  r1 : Boxed W H 23 (.int .u64 0)
  r2 : Boxed W (H + 1) 44 (.int .i64 0)
  m : Boxed W (H + 2) 23 (.int .u64 ((accM pre : Nat) : Int))
  g : Boxed W (H + 3) 4 (.bool (pre.any greatB))
  ok : pre.any badB = false
  lt : Below H w W
structure PStX (w : World) (H : Nat) (c : Code) (pre : List ByteArray) (W : World) : Prop where
  ret : c = .ret
  r1 : Boxed W H 23 (.int .u64 0)
  r2 : Boxed W (H + 1) 44 (.int .i64 11)
  ok : pre.any badB = true
  lt : Below H w W
theorem PSt.below {w A B : World} {H : Nat} {pre : List ByteArray} (h : PSt w H pre A) (hb : Below (H + 4) A B) : PSt w H pre B :=
  ⟨Boxed.below h.r1 hb (by omega), Boxed.below h.r2 hb (by omega), Boxed.below h.m hb (by omega), Boxed.below h.g hb (by omega), h.ok, h.lt.trans (hb.mono (by omega))⟩
theorem PStX.below {w A B : World} {H : Nat} {c : Code} {pre : List ByteArray} (h : PStX w H c pre A) (hb : Below (H + 4) A B) : PStX w H c pre B :=
  ⟨h.ret, Boxed.below h.r1 hb (by omega), Boxed.below h.r2 hb (by omega), h.ok, h.lt.trans (hb.mono (by omega))⟩
theorem others_of_below {A B : World} (h : Below A.heap.size A B) : KeepsOthers A B :=
  ⟨h.size, fun k _ hk _ => (h.block k (Array.getElem?_eq_some_iff.1 hk).1).trans hk⟩
theorem held_of_below {A B : World} {lo hi n : Nat} (h : Below n A B) (hn : hi ≤ n) : Held lo hi A B := fun b _ h2 => h.block b (by omega)
/-- Nothing but block B, and new ones, differs. -/
structure Only (B : Nat) (A C : World) : Prop where
  size : A.heap.size ≤ C.heap.size
  same : ∀ c, c < A.heap.size → c ≠ B → C.heap[c]? = A.heap[c]?
theorem Only.refl (B : Nat) (A : World) : Only B A A := ⟨Nat.le_refl _, fun _ _ _ => rfl⟩
theorem Only.trans {B : Nat} {A C D : World} (h : Only B A C) (k : Only B C D) : Only B A D :=
  ⟨Nat.le_trans h.size k.size, fun c h1 h2 => (k.same c (Nat.lt_of_lt_of_le h1 h.size) h2).trans (h.same c h1 h2)⟩
theorem Only.of_below {B : Nat} {A C : World} (h : Below A.heap.size A C) : Only B A C := ⟨h.size, fun c h1 _ => h.block c h1⟩
theorem Only.set (B : Nat) (A : World) (v : Value) : Only B A (A.setCell ⟨B, 0, none⟩ v) := ⟨by simp, fun c _ h2 => Below.heap_setCell A ⟨B, 0, none⟩ v c h2⟩
theorem Only.others {B : Nat} {A C : World} (h : Only B A C) {cs : Array Value} {t : TypeId} {f : Nat × Nat} (hb : A.heap[B]? = some (.cells cs t f)) : KeepsOthers A C :=
  ⟨h.size, fun k o hk ho => (h.same k (Array.getElem?_eq_some_iff.1 hk).1 (fun e => by subst e; rw [hb] at hk; cases hk; cases ho)).trans hk⟩
theorem Only.held {B lo hi : Nat} {A C : World} (h : Only B A C) (hB : B < lo) (hhi : hi ≤ A.heap.size) : Held lo hi A C := fun b h1 h2 => h.same b (by omega) (by omega)
theorem Only.boxed {B D : Nat} {A C : World} {t : TypeId} {v : Value} (h : Only B A C) (hb : Boxed A D t v) (hne : D ≠ B) : Boxed C D t v := (h.same D hb.lt hne).trans hb
theorem Only.drew {B : Nat} {A C : World} (h : Only B A C) : Only B A C.drew := ⟨h.size, h.same⟩
theorem Boxed.drew {B : Nat} {A : World} {t : TypeId} {v : Value} (h : Boxed A B t v) : Boxed A.drew B t v := h
def orK (m a k : Nat) : Nat := (List.range' a (k - a)).foldl (fun m n => m ||| 2 ^ n) m
theorem orK_start (m a : Nat) : orK m a a = m := by unfold orK; rw [Nat.sub_self]; rfl
theorem orK_succ (m a k : Nat) (h : a ≤ k) : orK m a (k + 1) = orK m a k ||| 2 ^ k := orR_succ m a k h
theorem orK_end (m a b : Nat) : orK m a (b + 1) = orR m a b := rfl
theorem orK_lt {m a k : Nat} (hm : m < 4294967296) (hk : k ≤ 32) : orK m a k < 4294967296 := orF_lt _ _ hm fun x hx => by have := List.mem_range'_1.1 hx; omega
theorem orK_bits {m a k : Nat} (hm : m < 4294967296) (hk : k < 32) (ha : a ≤ k) : bits .or .u64 ((orK m a k : Nat) : Int) (IntKind.u64.wrap (2 ^ k)) = ((orK m a (k + 1) : Nat) : Int) := by
  rw [show ((2 : Int) ^ k) = 2 ^ ((k : Int)).toNat by rw [Int.toNat_natCast], or_bits (z := (k : Int)) (orK_lt hm (by omega)) (by omega) (by omega), orK_succ m a k ha]; rfl
theorem accM_nil : accM [] = 0 := rfl
theorem any_snoc (f : ByteArray → Bool) (L : List ByteArray) (x : ByteArray) : (L ++ [x]).any f = (L.any f || f x) := by simp
set_option maxRecDepth 100000 in
set_option maxHeartbeats 2000000 in
theorem vmparse_all (w : World) : Calls Tryz.prog 88 #[.string txAll] w fun e w' => e = .returned (.tuple #[.int .u64 4294967295, .int .i64 0]) ∧ Below w.heap.size w w' := by
  unfold txAll
  go_enter Tryz.func88, Tryz.ntmps88
  go_wp2_with fail
  refine bodyPost_ret (v := .tuple #[.int .u64 4294967295, .int .i64 0]) (by simp [results, Tryz.results88, go_sem]) rfl ⟨rfl, ?_⟩
  exact ((Below.refl _ _).alloc (Nat.le_refl _) _).alloc (by simp) _
set_option maxRecDepth 100000 in
set_option maxHeartbeats 2000000 in
theorem vmparse_none (w : World) : Calls Tryz.prog 88 #[.string txNone] w fun e w' => e = .returned (.tuple #[.int .u64 0, .int .i64 0]) ∧ Below w.heap.size w w' := by
  unfold txNone
  go_enter Tryz.func88, Tryz.ntmps88
  go_wp2_with fail
  refine bodyPost_ret (v := .tuple #[.int .u64 0, .int .i64 0]) (by simp [results, Tryz.results88, go_sem]) rfl ⟨rfl, ?_⟩
  exact ((Below.refl _ _).alloc (Nat.le_refl _) _).alloc (by simp) _
theorem readL_bad {L : List ByteArray} (h : L.any badB = true) : readL L = (0, 11) := if_pos h
theorem readL_great {L : List ByteArray} (h : L.any badB = false) (k : L.any greatB = true) : readL L = (0, 10) := by unfold readL; rw [h, k]; rfl
theorem readL_ok {L : List ByteArray} (h : L.any badB = false) (k : L.any greatB = false) : readL L = (accM L, 0) := by unfold readL; rw [h, k]; rfl
theorem put_cells {W : World} {D H : Nat} {v1 v2 : Value} (a1 : Boxed W H 23 v1) (a2 : Boxed W (H + 1) 44 v2) (hD : H + 7 ≤ D) :
    (W.putObj D (.deferred none)).cell? ⟨H, 0, none⟩ = some v1 ∧ (W.putObj D (.deferred none)).cell? ⟨H + 1, 0, none⟩ = some v2 := by
  have e1 : Boxed (W.putObj D (.deferred none)) H 23 v1 := (World.putObj_heap_other (by omega)).trans a1
  have e2 : Boxed (W.putObj D (.deferred none)) (H + 1) 44 v2 := (World.putObj_heap_other (by omega)).trans a2
  exact ⟨e1.cell, e2.cell⟩
theorem put_below {w W : World} {D H : Nat} {o : Obj} (h : Below H w W) (hD : H ≤ D) (hK : W.heap[D]? = some o) (o' : Obj) : Below H w (W.putObj D o') :=
  h.trans (below_put W o' hD (Array.getElem?_eq_some_iff.1 hK).1)
theorem bad_x {x : ByteArray} (h : spanS x = none) : badB x = true := by unfold badB; rw [h]; rfl
theorem good_x {x : ByteArray} {p : Nat × Nat} (h : spanS x = some p) : badB x = false := by unfold badB; rw [h]; rfl
theorem great_x {x : ByteArray} {a b : Nat} (h : spanS x = some (a, b)) (k : 32 ≤ b) : greatB x = true := by unfold greatB; rw [h]; simpa using k
theorem small_x {x : ByteArray} {a b : Nat} (h : spanS x = some (a, b)) (k : b < 32) : greatB x = false := by unfold greatB; rw [h]; simpa using k
theorem acc_great {x : ByteArray} {a b : Nat} (L : List ByteArray) (h : spanS x = some (a, b)) (k : 32 ≤ b) : accM (L ++ [x]) = accM L := by rw [accM_snoc]; unfold stepM; rw [h]; exact if_pos k
theorem acc_small {x : ByteArray} {a b : Nat} (L : List ByteArray) (h : spanS x = some (a, b)) (k : b < 32) : accM (L ++ [x]) = orK (accM L) a (b + 1) := by rw [accM_snoc]; unfold stepM; rw [h]; exact if_neg (by omega)
attribute [local irreducible] accM badB greatB readL piecesOf spanS
set_option maxRecDepth 100000 in
set_option maxHeartbeats 4000000 in
theorem vmparse_list (s : ByteArray) (w : World) (hs : s.size ≤ 100000) (n1 : (s.toList == [97, 108, 108]) = false) (n2 : (s.toList == [110, 111, 110, 101]) = false) : Calls Tryz.prog 88 #[.string s] w fun e w' => e = .returned (.tuple #[.int .u64 ((readL (piecesOf 44 s)).1 : Int), .int .i64 (readL (piecesOf 44 s)).2]) ∧ Below w.heap.size w w' := by
  have hmix : Tryz.prog.follows .mixedOrders = true := by kernel_rfl
  refine (callsIn_wide (n := 20)).1 ?_
  refine callsIn_of_wp_marks Tryz.func88 rfl trivial ?_ rfl
  simp only [Tryz.ntmps88, List.size_toArray, List.length_cons, List.length_nil, Nat.reduceAdd, Nat.reduceSub, Array.replicate_succ, Array.replicate_zero, List.push_toArray, List.append_toArray, List.nil_append, List.cons_append]
  gi_wp2_with (refine ⟨trivial, ?_⟩; gi_at_call 108; refine (callsIn_wide.2 (vSplitSeq s _)).mono ?_; rintro e w' ⟨rfl, rfl⟩)
  obtain ⟨W0, hW0⟩ : ∃ W0, ((((((w.alloc (Obj.cells #[Value.int IntKind.u64 0] 23)).alloc (Obj.cells #[Value.int IntKind.i64 0] 44)).alloc (Obj.cells #[Value.int IntKind.u64 0] 23)).alloc (Obj.cells #[Value.bool false] 4)).alloc (Obj.cells #[Value.string s] 9)).alloc (Obj.cells #[Value.string { data := #[44] }] 9)).alloc (Obj.cells #[Value.int IntKind.i64 0] 3) = W0 := ⟨_, rfl⟩
  obtain ⟨H, hH⟩ : ∃ H, w.heap.size = H := ⟨_, rfl⟩
  have hsz : W0.heap.size = H + 7 := by rw [← hW0, ← hH]; simp
  have hlt0 : Below H w W0 := by rw [← hW0, ← hH]; exact (((((((Below.refl _ _).alloc (Nat.le_refl _) _).alloc (by simp) _).alloc (by simp; omega) _).alloc (by simp; omega) _).alloc (by simp; omega) _).alloc (by simp; omega) _).alloc (by simp; omega) _
  have c0 := Boxed.new w 23 (.int .u64 0)
  have c1 := Boxed.new (w.alloc (Obj.cells #[Value.int IntKind.u64 0] 23)) 44 (.int .i64 0)
  have c2 := Boxed.new ((w.alloc (Obj.cells #[Value.int IntKind.u64 0] 23)).alloc (Obj.cells #[Value.int IntKind.i64 0] 44)) 23 (.int .u64 0)
  have c3 := Boxed.new (((w.alloc (Obj.cells #[Value.int IntKind.u64 0] 23)).alloc (Obj.cells #[Value.int IntKind.i64 0] 44)).alloc (Obj.cells #[Value.int IntKind.u64 0] 23)) 4 (.bool false)
  have c4 := Boxed.new ((((w.alloc (Obj.cells #[Value.int IntKind.u64 0] 23)).alloc (Obj.cells #[Value.int IntKind.i64 0] 44)).alloc (Obj.cells #[Value.int IntKind.u64 0] 23)).alloc (Obj.cells #[Value.bool false] 4)) 9 (.string s)
  have c5 := Boxed.new (((((w.alloc (Obj.cells #[Value.int IntKind.u64 0] 23)).alloc (Obj.cells #[Value.int IntKind.i64 0] 44)).alloc (Obj.cells #[Value.int IntKind.u64 0] 23)).alloc (Obj.cells #[Value.bool false] 4)).alloc (Obj.cells #[Value.string s] 9)) 9 (.string ⟨#[44]⟩)
  have c6 := Boxed.new ((((((w.alloc (Obj.cells #[Value.int IntKind.u64 0] 23)).alloc (Obj.cells #[Value.int IntKind.i64 0] 44)).alloc (Obj.cells #[Value.int IntKind.u64 0] 23)).alloc (Obj.cells #[Value.bool false] 4)).alloc (Obj.cells #[Value.string s] 9)).alloc (Obj.cells #[Value.string ⟨#[44]⟩] 9)) 3 (.int .i64 0)
  simp only [World.size_alloc, hH] at c0 c1 c2 c3 c4 c5 c6
  have hP0 : PSt w H [] W0 := by
    rw [← hW0]
    exact ⟨(((((c0.alloc _).alloc _).alloc _).alloc _).alloc _).alloc _, ((((c1.alloc _).alloc _).alloc _).alloc _).alloc _, by rw [accM_nil]; exact (((c2.alloc _).alloc _).alloc _).alloc _, ((c3.alloc _).alloc _).alloc _, rfl, by rw [hW0]; exact hlt0⟩
  have b1 : Boxed W0 (H + 1 + 1 + 1 + 1) 9 (.string s) := by rw [← hW0]; exact (c4.alloc _).alloc _
  have b2 : Boxed W0 (H + 1 + 1 + 1 + 1 + 1) 9 (.string ⟨#[44]⟩) := by rw [← hW0]; exact c5.alloc _
  have b3 : Boxed W0 (H + 1 + 1 + 1 + 1 + 2) 3 (.int .i64 0) := by rw [← hW0]; exact c6
  rw [hW0, hH]
  clear c0 c1 c2 c3 c4 c5 c6 hW0
  refine range_state (lo := H + 1 + 1 + 1 + 1) (hi := H + 1 + 1 + 1 + 1 + 3) rfl (by decide) (gf := 145) (lb := #[.pointer (some ⟨H + 1 + 1 + 1 + 1 + 1, 0, none⟩), .pointer (some ⟨H + 1 + 1 + 1 + 1, 0, none⟩), .pointer (some ⟨H + 1 + 1 + 1 + 1 + 2, 0, none⟩)]) rfl trivial (enters_of Tryz.func145 (by kernel_rfl) rfl)
    (by omega) (by omega) (split_seq (20 - 1) (H + 1 + 1 + 1 + 1) (by decide) s W0 hs b1 b2 b3) rfl
    (PSt w H) (PStX w H) (fun _ _ _ h hb => h.below hb) (fun _ _ _ _ h hb => h.below hb) hP0
    (fun x => { tmps := #[Value.string s, undef, Value.pointer (some ⟨H, 0, none⟩), Value.pointer (some ⟨H + 1, 0, none⟩), Value.pointer (some ⟨H + 1 + 1, 0, none⟩), Value.pointer (some ⟨H + 1 + 1 + 1, 0, none⟩), .string x, undef, undef, undef, undef,
          Value.string s, Value.bool false, Value.bool false, Value.bool false, Value.bool false, Value.string s,
          Value.func (Fn.func 145) #[] #[Value.pointer (some ⟨H + 1 + 1 + 1 + 1 + 1, 0, none⟩), Value.pointer (some ⟨H + 1 + 1 + 1 + 1, 0, none⟩), Value.pointer (some ⟨H + 1 + 1 + 1 + 1 + 2, 0, none⟩)],
          .string x, undef, undef, undef, undef, undef, undef, undef, undef, undef, undef, undef, undef, undef, undef,
          undef, undef, undef, undef, undef, undef, undef, undef], defers := [] }) ?assign ?body ?done ?stop
  case assign =>
    intro l x W K hK
    gi_wp2
    exact hK
  case body =>
    rintro l pre x W hG hI hhi hlen
    have hn1 : 1 ≤ 20 - 1 - 1 := by decide
    gi_wp2_with fail
    refine ⟨trivial, (CallsIn.inRound l (callsIn_wide.2 (vspan x W hG))).mono ?_⟩
    rintro e w1 ⟨hb, (⟨a, b, rfl, hn⟩ | ⟨a, b, rfl, hn, hab, hb9⟩)⟩
    · have hI1 := hI.below (hb.mono (by omega))
      have hHb := Lib.hid hb
      have hN := Lib.hid hn
      clear hb hn
      have f1 := hI1.r1.cell
      have f2 := hI1.r2.cell
      have f5 := hI1.r1.frozen
      have f6 := hI1.r2.frozen
      gi_wp2_with fail
      refine ⟨((others_of_below hHb.out).trans (KeepsOthers.setCell _ _ _)).trans (KeepsOthers.setCell _ _ _), rfl, (hI1.r1.set _).other (by omega) _, ((hI1.r2.other (by omega) _).set _), by rw [any_snoc, bad_x hN.out]; simp, ?_⟩
      exact (hI1.lt.setCell (p := ⟨H, 0, none⟩) (Nat.le_refl _) _).setCell (p := ⟨H + 1, 0, none⟩) (Nat.le_succ _) _
    · have hI1 := hI.below (hb.mono (by omega))
      have hHb := Lib.hid hb
      have hN := Lib.hid hn
      have hsz1 : H + 7 ≤ w1.heap.size := by have := hb.size; omega
      clear hb hn
      by_cases h32 : 32 ≤ b
      · have f4 := hI1.g.cell
        have f8 := hI1.g.frozen
        gi_wp2_with fail
        exact ⟨(others_of_below hHb.out).trans (KeepsOthers.setCell _ _ _), (held_of_below hHb.out (by omega)).trans ((Only.set (H + 3) _ _).held (by omega) (by omega)),
          (hI1.r1.other (by omega) _), (hI1.r2.other (by omega) _), by rw [acc_great pre hN.out h32]; exact hI1.m.other (by omega) _, by rw [any_snoc, great_x hN.out h32, Bool.or_true]; exact hI1.g.set _, by rw [any_snoc, hI1.ok, good_x hN.out]; rfl,
          hI1.lt.setCell (p := ⟨H + 3, 0, none⟩) (show H ≤ H + 3 by omega) _⟩
      · have hAcc := accM_lt pre
        gi_wp2_with fail
        obtain ⟨w2, hw2⟩ : ∃ w2, w2 = w1 := ⟨_, rfl⟩
        gi_loopw [10] (fun v wr => ∃ k : Nat, a ≤ k ∧ k ≤ b + 1 ∧ v = .int .i64 (k : Int) ∧ Boxed wr (H + 2) 23 (.int .u64 ((orK (accM pre) a k : Nat) : Int)) ∧ Only (H + 2) w1 wr ∧ Below H w1 wr) (fun v _ => b + 1 - (intOf v).toNat)
        case atStart => exact ⟨a, by omega, by omega, rfl, by rw [orK_start]; exact hI1.m, Only.refl _ _, Below.refl _ _⟩
        case round =>
          obtain ⟨k, hk1, hk2, rfl, hm, hO, hB⟩ := hrel
          by_cases hlt : k ≤ b
          · have f3 := hm.cell
            have f7 := hm.frozen
            have HB := Lib.hid (orK_bits (a := a) (k := k) hAcc (by omega) hk1)
            gi_wp2_with fail
            gi_region_with_o (fail)
            all_goals gi_wp2_with fail
            all_goals
              go_roundw
              case rel => exact ⟨k + 1, by omega, by omega, by go_num, Boxed.drew (by rw [HB.out]; exact hm.set _), (hO.trans (Only.set _ _ _)).drew, (hB.setCell (p := ⟨H + 1 + 1, 0, none⟩) (show H ≤ H + 1 + 1 by omega) _).drew⟩
              case measure => simp [intOf]; omega
          · obtain rfl : k = b + 1 := by omega
            have hm' : Boxed wr (H + 2) 23 (.int .u64 ((accM (pre ++ [x]) : Nat) : Int)) := by rw [acc_small pre hN.out (by omega)]; exact hm
            gi_wp2_with fail
            exact ⟨(others_of_below hHb.out).trans (hO.others hI1.m), (held_of_below hHb.out (by omega)).trans (hO.held (by omega) (by omega)),
              hO.boxed hI1.r1 (by omega), hO.boxed hI1.r2 (by omega), hm', by rw [any_snoc, small_x hN.out (by omega), Bool.or_false]; exact hO.boxed hI1.g (by omega), by rw [any_snoc, hI1.ok, good_x hN.out]; rfl, hI1.lt.trans hB⟩
  case done =>
    rintro D ys W hD hS hI hK
    have hp : piecesOf 44 s = ys := pieces_of hS
    have hbB : Below H w W := hI.lt
    have r1 := hI.r1
    have r2 := hI.r2
    have f1 := hI.r1.cell
    have f2 := hI.r2.cell
    have f3 := hI.m.cell
    have f4 := hI.g.cell
    have f5 := hI.r1.frozen
    have f6 := hI.r2.frozen
    cases hg : ys.any greatB
    · rw [hg] at f4
      have HR := Lib.hid ((congrArg readL hp).trans (readL_ok hI.ok hg))
      clear hp
      gi_wp2
      have k1 := (KeepsOthers.setCell W ⟨H, 0, none⟩ (.int .u64 ((accM ys : Nat) : Int))).same D _ hK rfl
      have k2 := (KeepsOthers.setCell _ ⟨H + 1, 0, none⟩ (.int .i64 0)).same D _ k1 rfl
      have g1 := (r1.set (.int .u64 ((accM ys : Nat) : Int))).other (B' := H + 1) (by omega) (.int .i64 0)
      have g2 := (r2.other (B' := H) (by omega) (.int .u64 ((accM ys : Nat) : Int))).set (.int .i64 0)
      obtain ⟨d1, d2⟩ := put_cells (D := D) g1 g2 (by omega)
      refine ⟨by simp, .inl ⟨_, _, rfl, run_takeDeferred k2, ?_⟩⟩
      refine ⟨.tuple #[.int .u64 ((accM ys : Nat) : Int), .int .i64 0], by simp [results, Tryz.results88, go_sem, d1, d2], by rw [HR.out], ?_⟩
      rw [hH]
      exact put_below ((hbB.setCell (p := ⟨H, 0, none⟩) (Nat.le_refl _) _).setCell (p := ⟨H + 1, 0, none⟩) (Nat.le_succ _) _) (by omega) k2 _
    · rw [hg] at f4
      have HR := Lib.hid ((congrArg readL hp).trans (readL_great hI.ok hg))
      clear hp
      gi_wp2
      have k1 := (KeepsOthers.setCell W ⟨H, 0, none⟩ (.int .u64 0)).same D _ hK rfl
      have k2 := (KeepsOthers.setCell _ ⟨H + 1, 0, none⟩ (.int .i64 10)).same D _ k1 rfl
      have g1 := (r1.set (.int .u64 0)).other (B' := H + 1) (by omega) (.int .i64 10)
      have g2 := (r2.other (B' := H) (by omega) (.int .u64 0)).set (.int .i64 10)
      obtain ⟨d1, d2⟩ := put_cells (D := D) g1 g2 (by omega)
      refine ⟨by simp, .inl ⟨_, _, rfl, run_takeDeferred k2, ?_⟩⟩
      refine ⟨.tuple #[.int .u64 0, .int .i64 10], by simp [results, Tryz.results88, go_sem, d1, d2], by rw [HR.out]; rfl, ?_⟩
      rw [hH]
      exact put_below ((hbB.setCell (p := ⟨H, 0, none⟩) (Nat.le_refl _) _).setCell (p := ⟨H + 1, 0, none⟩) (Nat.le_succ _) _) (by omega) k2 _
  case stop =>
    rintro D c pre W hD ⟨rest, hS⟩ hI hK
    obtain ⟨rfl, r1, r2, hok, hbB⟩ := hI
    have HR := Lib.hid ((congrArg readL (pieces_of hS)).trans (readL_bad (by rw [List.any_append, hok]; rfl)))
    gi_wp2
    obtain ⟨d1, d2⟩ := put_cells r1 r2 (show H + 7 ≤ D by omega)
    refine ⟨by simp, .inl ⟨_, _, rfl, run_takeDeferred hK, ?_⟩⟩
    refine ⟨.tuple #[.int .u64 0, .int .i64 11], by simp [results, Tryz.results88, go_sem, d1, d2], by rw [HR.out]; rfl, ?_⟩
    rw [hH]
    exact put_below hbB (by omega) hK _
end Go.Proofs.YtbbihfafkpniiaaGreatDoor
/- Clean of the program's paths: a range over strings.SplitSeq. -/
namespace Go.Proofs.YtbbihfafkpniiaaGreatDoor
open Go.RowKit
attribute [local go_sem] Oper.semAt_some
theorem vsplitseqP (s : ByteArray) (w : World) : Calls Tryz.prog 127 #[.string s, .string ⟨#[47]⟩, .int .i64 0] w fun e w' => e = .returned (.func (.func 145) #[] #[.pointer (some ⟨w.heap.size + 1, 0, none⟩), .pointer (some ⟨w.heap.size, 0, none⟩), .pointer (some ⟨w.heap.size + 2, 0, none⟩)]) ∧
    w' = ((w.alloc (.cells #[.string s] 9)).alloc (.cells #[.string ⟨#[47]⟩] 9)).alloc (.cells #[.int .i64 0] 3) := by
  go_enter Tryz.func127, Tryz.ntmps127
  go_wp2
  go_ret
  exact ⟨rfl, rfl⟩
set_option maxHeartbeats 1000000 in
theorem vSplitSeqP (s : ByteArray) (w : World) : Calls Tryz.prog 108 #[.string s, .string ⟨#[47]⟩] w fun e w' => e = .returned (.func (.func 145) #[] #[.pointer (some ⟨w.heap.size + 1, 0, none⟩), .pointer (some ⟨w.heap.size, 0, none⟩), .pointer (some ⟨w.heap.size + 2, 0, none⟩)]) ∧
    w' = ((w.alloc (.cells #[.string s] 9)).alloc (.cells #[.string ⟨#[47]⟩] 9)).alloc (.cells #[.int .i64 0] 3) := by
  go_enter Tryz.func108, Tryz.ntmps108
  go_wp2_with fail
  refine (vsplitseqP s _).mono ?_
  rintro e w' ⟨rfl, rfl⟩
  go_wp2_with fail
  go_ret
  exact ⟨rfl, rfl⟩
structure CSt (w : World) (H : Nat) (pre : List ByteArray) (W : World) : Prop where
  r : Boxed W H 4 (.bool false)
  ok : pre.all nameB = true
  lt : Below H w W
structure CStX (w : World) (H : Nat) (c : Code) (pre : List ByteArray) (W : World) : Prop where
  ret : c = .ret
  r : Boxed W H 4 (.bool false)
  ok : pre.all nameB = false
  lt : Below H w W
theorem CSt.below {w A B : World} {H : Nat} {pre : List ByteArray} (h : CSt w H pre A) (hb : Below (H + 1) A B) : CSt w H pre B :=
  ⟨Boxed.below h.r hb (by omega), h.ok, h.lt.trans (hb.mono (by omega))⟩
theorem CStX.below {w A B : World} {H : Nat} {c : Code} {pre : List ByteArray} (h : CStX w H c pre A) (hb : Below (H + 1) A B) : CStX w H c pre B :=
  ⟨h.ret, Boxed.below h.r hb (by omega), h.ok, h.lt.trans (hb.mono (by omega))⟩
theorem all_snocC (L : List ByteArray) (x : ByteArray) : (L ++ [x]).all nameB = (L.all nameB && nameB x) := by simp
theorem clean_root {s : ByteArray} (h : (s.toList == [47]) = true) : cleanB s = true := by unfold cleanB; rw [h]; rfl
theorem clean_no {s : ByteArray} (h : (s.toList == [47]) = false) (k : Lib.hasPrefix s.data.toList [47] = false) : cleanB s = false := by
  unfold cleanB
  rw [h, Bool.false_or]
  have : (s.data.toList.head? == some 47) = false := by
    cases hd : s.data.toList with
    | nil => rfl
    | cons c r =>
      rw [hd] at k
      have : (47 : UInt8) ≠ c := by
        intro e
        subst e
        simp [Lib.hasPrefix, List.isPrefixOf] at k
      simp only [List.head?_cons]
      rw [beq_eq_false_iff_ne]
      intro e; injection e with e; exact this e.symm
  rw [this]; rfl
theorem clean_yes {s : ByteArray} (h : (s.toList == [47]) = false) (k : Lib.hasPrefix s.data.toList [47] = true) {L : List ByteArray} (hw : IsW 47 (restOf s) L) : cleanB s = L.all nameB := by
  unfold cleanB
  rw [h, Bool.false_or]
  have : (s.data.toList.head? == some 47) = true := by
    obtain ⟨r, hr⟩ := List.isPrefixOf_iff_prefix.1 k
    rw [← hr]; rfl
  rw [this, Bool.true_and, pieces_of hw]
theorem rest_trim {s : ByteArray} (k : Lib.hasPrefix s.data.toList [47] = true) : (⟨(Lib.trimPrefix s.data.toList [47]).toArray⟩ : ByteArray) = restOf s := by
  refine data_inj ?_
  rw [rest_list]
  unfold Lib.trimPrefix
  rw [if_pos k]; simp
theorem vcutprefixP (s : ByteArray) (p : ByteArray) (w : World) : Calls Tryz.prog 107 #[.string s, .string p] w fun e w' => e = .returned (.tuple #[.string ⟨(Lib.trimPrefix s.data.toList p.data.toList).toArray⟩, .bool (Lib.hasPrefix s.data.toList p.data.toList)]) ∧ w = w' :=
  (Tryz.strings_CutPrefix s p w).mono fun _ _ h => ⟨h.1, h.2.symm⟩
attribute [local irreducible] nameB cleanB piecesOf
set_option maxRecDepth 100000 in
set_option maxHeartbeats 4000000 in
theorem vpclean (s : ByteArray) (w : World) (hs : s.size ≤ 100000) : Calls Tryz.prog 78 #[.string s] w fun e w' => e = .returned (.bool (cleanB s)) ∧ Below w.heap.size w w' := by
  cases h0 : (s.toList == [47])
  · cases hp : Lib.hasPrefix s.data.toList [47]
    · have HR := Lib.hid (clean_no h0 hp)
      have HP := Lib.hid hp
      clear hp
      go_enter Tryz.func78, Tryz.ntmps78
      go_wp2_with fail
      refine (vcutprefixP s _ _).mono ?_
      rintro e w1 ⟨rfl, rfl⟩
      rw [show Lib.hasPrefix s.data.toList (⟨#[47]⟩ : ByteArray).data.toList = false from HP.out]
      go_wp2_with fail
      refine bodyPost_ret (v := .bool false) (by simp [results, Tryz.results78, go_sem]) rfl ⟨ret_b HR.out.symm, ?_⟩
      exact (Below.refl _ _).alloc (Nat.le_refl _) _
    · have hmix : Tryz.prog.follows .mixedOrders = true := by kernel_rfl
      have HY := Lib.hid (fun L hw => clean_yes (L := L) h0 hp hw)
      have HP := Lib.hid hp
      have HT := Lib.hid (rest_trim hp)
      have hrs : (restOf s).size ≤ 100000 := by unfold restOf; rw [ByteArray.size_extract]; omega
      clear hp
      generalize restOf s = r at *
      refine (callsIn_wide (n := 20)).1 ?_
      refine callsIn_of_wp_marks Tryz.func78 rfl trivial ?_ rfl
      simp only [Tryz.ntmps78, List.size_toArray, List.length_cons, List.length_nil, Nat.reduceAdd, Nat.reduceSub, Array.replicate_succ, Array.replicate_zero, List.push_toArray, List.append_toArray, List.nil_append, List.cons_append]
      gi_wp2_with (refine ⟨trivial, ?_⟩; gi_at_call 107; refine (callsIn_wide.2 (vcutprefixP s _ _)).mono ?_; rintro e w' ⟨rfl, rfl⟩; rw [show Lib.hasPrefix s.data.toList (⟨#[47]⟩ : ByteArray).data.toList = true from HP.out, show (⟨(Lib.trimPrefix s.data.toList (⟨#[47]⟩ : ByteArray).data.toList).toArray⟩ : ByteArray) = r from HT.out])
      gi_wp2_with (refine ⟨trivial, ?_⟩; gi_at_call 108; refine (callsIn_wide.2 (vSplitSeqP r _)).mono ?_; rintro e w' ⟨rfl, rfl⟩)
      obtain ⟨W0, hW0⟩ : ∃ W0, (((w.alloc (Obj.cells #[Value.bool false] 4)).alloc (Obj.cells #[Value.string r] 9)).alloc (Obj.cells #[Value.string ⟨#[47]⟩] 9)).alloc (Obj.cells #[Value.int IntKind.i64 0] 3) = W0 := ⟨_, rfl⟩
      obtain ⟨H, hH⟩ : ∃ H, w.heap.size = H := ⟨_, rfl⟩
      have hsz : W0.heap.size = H + 4 := by rw [← hW0, ← hH]; simp
      have hlt0 : Below H w W0 := by rw [← hW0, ← hH]; exact ((((Below.refl _ _).alloc (Nat.le_refl _) _).alloc (by simp) _).alloc (by simp; omega) _).alloc (by simp; omega) _
      have c0 := Boxed.new w 4 (.bool false)
      have c1 := Boxed.new (w.alloc (Obj.cells #[Value.bool false] 4)) 9 (.string r)
      have c2 := Boxed.new ((w.alloc (Obj.cells #[Value.bool false] 4)).alloc (Obj.cells #[Value.string r] 9)) 9 (.string ⟨#[47]⟩)
      have c3 := Boxed.new (((w.alloc (Obj.cells #[Value.bool false] 4)).alloc (Obj.cells #[Value.string r] 9)).alloc (Obj.cells #[Value.string ⟨#[47]⟩] 9)) 3 (.int .i64 0)
      simp only [World.size_alloc, hH] at c0 c1 c2 c3
      have hP0 : CSt w H [] W0 := by
        rw [← hW0]
        exact ⟨((c0.alloc _).alloc _).alloc _, rfl, by rw [hW0]; exact hlt0⟩
      have b1 : Boxed W0 (H + 1) 9 (.string r) := by rw [← hW0]; exact (c1.alloc _).alloc _
      have b2 : Boxed W0 (H + 1 + 1) 9 (.string ⟨#[47]⟩) := by rw [← hW0]; exact c2.alloc _
      have b3 : Boxed W0 (H + 1 + 2) 3 (.int .i64 0) := by rw [← hW0]; exact c3
      rw [hW0, hH]
      clear c0 c1 c2 c3 hW0
      refine range_state (lo := H + 1) (hi := H + 1 + 3) rfl (by decide) (gf := 145) (lb := #[.pointer (some ⟨H + 1 + 1, 0, none⟩), .pointer (some ⟨H + 1, 0, none⟩), .pointer (some ⟨H + 1 + 2, 0, none⟩)]) rfl trivial (enters_of Tryz.func145 (by kernel_rfl) rfl)
        (by omega) (by omega) (split_seqP (20 - 1) (H + 1) (by decide) r W0 hrs b1 b2 b3) rfl
        (CSt w H) (CStX w H) (fun _ _ _ h hb => h.below hb) (fun _ _ _ _ h hb => h.below hb) hP0
        (fun x => { tmps := #[Value.string s, undef, Value.pointer (some ⟨H, 0, none⟩), Value.string r, Value.bool true, .string x, Value.string s, Value.bool false, Value.tuple #[Value.string r, Value.bool true],
              Value.string s, Value.tuple #[Value.string r, Value.bool true], Value.string r, Value.bool true, Value.bool true, Value.bool false, Value.string r,
              Value.func (Fn.func 145) #[] #[Value.pointer (some ⟨H + 1 + 1, 0, none⟩), Value.pointer (some ⟨H + 1, 0, none⟩), Value.pointer (some ⟨H + 1 + 2, 0, none⟩)],
              .string x, undef, undef, undef], defers := [] }) ?assign ?body ?done ?stop
      case assign =>
        intro l x W K hK
        gi_wp2
        exact hK
      case body =>
        rintro l pre x W hG hI hhi hlen
        have hn1 : 1 ≤ 20 - 1 - 1 := by decide
        gi_wp2_with fail
        refine ⟨trivial, (CallsIn.inRound l (callsIn_wide.2 (vpname x (by omega) W))).mono ?_⟩
        rintro e w1 ⟨rfl, hb⟩
        have hI1 := hI.below (hb.mono (by omega))
        have HHb := Lib.hid hb
        clear hb
        cases hn : nameB x
        · have HN := Lib.hid hn
          have f1 := hI1.r.cell
          have f5 := hI1.r.frozen
          clear hn
          gi_wp2_with fail
          exact ⟨(others_of_below HHb.out).trans (KeepsOthers.setCell _ _ _), rfl, hI1.r.set _, by rw [all_snocC, HN.out, Bool.and_false], hI1.lt.setCell (p := ⟨H, 0, none⟩) (Nat.le_refl _) _⟩
        · have HN := Lib.hid hn
          clear hn
          gi_wp2_with fail
          exact ⟨others_of_below HHb.out, held_of_below HHb.out (by omega), hI1.r, by rw [all_snocC, hI1.ok, HN.out]; rfl, hI1.lt⟩
      case done =>
        rintro D ys W hD hS hI hK
        have HR := Lib.hid (show cleanB s = true by rw [HY.out ys hS, hI.ok])
        have f1 := hI.r.cell
        have f5 := hI.r.frozen
        have r1 := hI.r
        have hbB : Below H w W := hI.lt
        gi_wp2
        have k1 := (KeepsOthers.setCell W ⟨H, 0, none⟩ (.bool true)).same D _ hK rfl
        have g1 := r1.set (.bool true)
        have d1 : ((W.setCell ⟨H, 0, none⟩ (.bool true)).putObj D (.deferred none)).cell? ⟨H, 0, none⟩ = some (.bool true) := Boxed.cell (show Boxed _ H 4 (.bool true) from (World.putObj_heap_other (by omega)).trans g1)
        refine ⟨by simp, .inl ⟨_, _, rfl, run_takeDeferred k1, ?_⟩⟩
        refine ⟨.bool true, by simp [results, Tryz.results78, go_sem, d1], by rw [HR.out], ?_⟩
        rw [hH]
        exact put_below (hbB.setCell (p := ⟨H, 0, none⟩) (Nat.le_refl _) _) (by omega) k1 _
      case stop =>
        rintro D c pre W hD ⟨rest, hS⟩ hI hK
        obtain ⟨rfl, r1, hok, hbB⟩ := hI
        have HR := Lib.hid (show cleanB s = false by rw [HY.out _ hS, List.all_append, hok, Bool.false_and])
        gi_wp2
        have d1 : (W.putObj D (.deferred none)).cell? ⟨H, 0, none⟩ = some (.bool false) := Boxed.cell (show Boxed _ H 4 (.bool false) from (World.putObj_heap_other (by omega)).trans r1)
        refine ⟨by simp, .inl ⟨_, _, rfl, run_takeDeferred hK, ?_⟩⟩
        refine ⟨.bool false, by simp [results, Tryz.results78, go_sem, d1], by rw [HR.out], ?_⟩
        rw [hH]
        exact put_below hbB (by omega) hK _
  · have HR := Lib.hid (clean_root h0)
    go_enter Tryz.func78, Tryz.ntmps78
    go_wp2_with fail
    refine bodyPost_ret (v := .bool true) (by simp [results, Tryz.results78, go_sem]) rfl ⟨ret_b HR.out.symm, ?_⟩
    exact (Below.refl _ _).alloc (Nat.le_refl _) _
end Go.Proofs.YtbbihfafkpniiaaGreatDoor

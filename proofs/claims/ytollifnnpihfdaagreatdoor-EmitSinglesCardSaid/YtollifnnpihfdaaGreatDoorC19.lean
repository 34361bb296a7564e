/- Texts of one proof, laid together. -/
import Derived.Test.YtollifnnpihfdaaGreatDoorC10
import Derived.Test.YtollifnnpihfdaaGreatDoorC06
import Derived.Test.YtollifnnpihfdaaGreatDoorProg
import Derived.Test.YtollifnnpihfdaaGreatDoorC01
import Derived.Lib.Hide
import Derived.WalkSpells
import Derived.LoopTactic
import Derived.Outline
import Derived.IntWalk
import Derived.Deep.QuietTactic
import Derived.BigQuiet
import Derived.Test.YtollifnnpihfdaaGreatDoorC18
import Derived.Laws.ResultCell
import Derived.Maps.AppendAt
import Derived.Test.YtollifnnpihfdaaGreatDoorC17
/- number and small, strings.Cut at one byte, span: their contracts. -/
namespace Go.Proofs.YtollifnnpihfdaaGreatDoor
open Go.RowKit
theorem shapeN_short {s : ByteArray} (h : s.size < 1) : num4 s = none := by
  unfold num4 shapeN
  rw [bsz]
  have : decide (1 ≤ s.size) = false := decide_eq_false (by omega)
  rw [this]; simp
theorem shapeN_long {s : ByteArray} (h : 4 < s.size) : num4 s = none := by
  unfold num4 shapeN
  rw [bsz]
  have : decide (s.size ≤ 4) = false := decide_eq_false (by omega)
  rw [this]; simp
theorem head_at (s : ByteArray) (h : 0 < s.size) : s.data.toList.head? = some s[0] := by
  rw [List.head?_eq_getElem?, List.getElem?_eq_getElem (by rw [bsz]; exact h)]; rfl
theorem shapeN_zero {s : ByteArray} (h : 1 < s.size) (h0 : s[0].toNat = 48) : num4 s = none := by
  unfold num4 shapeN
  rw [bsz, head_at s (by omega)]
  have e : s[0] = 48 := UInt8.toNat_inj.1 h0
  rw [e]
  simp [h]
theorem shapeN_ok {s : ByteArray} (h1 : 1 ≤ s.size) (h2 : s.size ≤ 4) (h3 : ¬ (s[0].toNat = 48 ∧ 1 < s.size)) : shapeN s.data.toList = true := by
  unfold shapeN
  rw [bsz, head_at s (by omega)]
  simp only [Bool.and_eq_true, decide_eq_true_eq, Bool.not_eq_true']
  refine ⟨⟨h1, h2⟩, ?_⟩
  by_cases h : 1 < s.size
  · have : s[0] ≠ 48 := fun e => h3 ⟨by rw [e]; rfl, h⟩
    simp [this]
  · simp [h]
theorem num4_all {s : ByteArray} (h1 : shapeN s.data.toList = true) (h2 : s.data.toList.all digC = true) : num4 s = some (valN s.data.toList) := by
  unfold num4; rw [h1, h2]; rfl
theorem num4_bad {s : ByteArray} (k : Nat) (h : k < s.size) (hc : digC s[k] = false) : num4 s = none :=
  num4_no s s[k] (Array.mem_toList_iff.2 (Array.getElem_mem (xs := s.data) h)) hc
theorem take_dig (s : ByteArray) (k : Nat) (h : k < s.size) (hp : (s.data.toList.take k).all digC = true) (hc : digC s[k] = true) :
    (s.data.toList.take (k + 1)).all digC = true ∧ valN (s.data.toList.take (k + 1)) = 10 * valN (s.data.toList.take k) + (s[k].toNat - 48) := by
  rw [take_snoc s k h, List.all_append, hp, valN_snoc]
  simp [hc]
theorem take_le (s : ByteArray) (k : Nat) (hp : (s.data.toList.take k).all digC = true) (h : s.size ≤ 4) : valN (s.data.toList.take k) ≤ 9999 :=
  valN_le _ hp (by rw [List.length_take, bsz]; omega)
def numV (o : Option Nat) : Value := .tuple #[.int .i64 ((o.getD 0 : Nat) : Int), .bool o.isSome]
def smallV (o : Option Nat) : Int := match o with | some n => (n : Int) | none => -1
theorem digC_inv {c : UInt8} (h : digC c = true) : 48 ≤ (c.toNat : Int) ∧ (c.toNat : Int) ≤ 57 := by unfold digC at h; simp at h; omega
theorem digC_not {c : UInt8} (h : digC c = false) : (c.toNat : Int) < 48 ∨ 57 < (c.toNat : Int) := by unfold digC at h; simp at h; omega
theorem dig_sub {c : UInt8} (h : 48 ≤ (c.toNat : Int)) (v : Nat) : ((10 * v + (c.toNat - 48) : Nat) : Int) = 10 * (v : Int) + ((c.toNat : Int) - 48) := by omega
theorem dig_sub2 {c : UInt8} (h : 48 ≤ (c.toNat : Int)) (v : Nat) : ((10 * v + (c.toNat - 48) : Nat) : Int) = (v : Int) * 10 + ((c.toNat : Int) - 48) := by omega
/-- strings.Cut at one byte. -/
def CutP (c : UInt8) (s : ByteArray) (w : World) (e : Ending) (w' : World) : Prop :=
  Below w.heap.size w w' ∧ ((NoC c s ∧ e = .returned (.tuple #[.string s, .string ⟨#[]⟩, .bool false])) ∨
    ∃ i : Nat, i < s.size ∧ s.data.toList = s.data.toList.take i ++ c :: s.data.toList.drop (i + 1) ∧ (∀ x ∈ s.data.toList.take i, x ≠ c) ∧ e = .returned (.tuple #[.string (s.extract 0 i), .string (s.extract (i + 1) s.size), .bool true]))
theorem cut_lists {s : ByteArray} {c : UInt8} {i : Nat} (hi : i < s.size) (h : s.data.toList = s.data.toList.take i ++ c :: s.data.toList.drop (i + 1)) :
    s.data.toList = (s.extract 0 i).data.toList ++ c :: (s.extract (i + 1) s.size).data.toList := by
  have e : s.data.toList.take s.size = s.data.toList := List.take_of_length_le (by rw [bsz]; exact Nat.le_refl _)
  rw [extract_list, extract_list, List.drop_zero, e]
  exact h
theorem span_cut {s a b : ByteArray} (h : s.data.toList = a.data.toList ++ 45 :: b.data.toList) (ha : NoC 45 a) :
    spanS s = match num4 a, num4 b with
      | some x, some y => if x ≤ y then some (x, y) else none
      | _, _ => none := by
  have hp : piecesOf 45 s = a :: piecesOf 45 b := pieces_of (isW_cons h ha (isW_pieces 45 b))
  unfold spanS
  rw [hp]
  by_cases hb : (45 : UInt8) ∈ b.data.toList
  · have hn : num4 b = none := num4_no b 45 hb rfl
    rw [hn]
    have hw := isW_pieces 45 b
    cases hL : piecesOf 45 b with
    | nil => exact absurd hL hw.ne
    | cons y M =>
      cases M with
      | nil =>
        rw [hL] at hw
        have e : b = y := data_inj (by have := hw.eq; simpa [joinL, Lib.joinTail] using this)
        have := hw.no y (by simp) 45 (by rw [← e]; exact hb)
        exact absurd rfl this
      | cons z M => cases num4 a <;> rfl
  · rw [pieces_one (fun x hx e => hb (by rw [← e]; exact hx))]
    rfl
def SpanPost (s : ByteArray) (w : World) (e : Ending) (w' : World) : Prop :=
  Below w.heap.size w w' ∧ ((∃ a b : Int, e = .returned (.tuple #[.int .i64 a, .int .i64 b, .bool false]) ∧ spanS s = none) ∨ (∃ a b : Nat, e = .returned (.tuple #[.int .i64 (a : Int), .int .i64 (b : Int), .bool true]) ∧ spanS s = some (a, b) ∧ a ≤ b ∧ b ≤ 9999))
theorem span_ok {s : ByteArray} {a b : Nat} (h : spanS s = some (a, b)) : a ≤ b ∧ b ≤ 9999 := spanL_le h
attribute [local irreducible] num4
end Go.Proofs.YtollifnnpihfdaaGreatDoor
/- Parse of package mask returns readM. -/
namespace Go.Proofs.YtollifnnpihfdaaGreatDoor
open Go.RowKit Go.Shelf
attribute [local go_sem] Oper.semAt_some
set_option maxHeartbeats 1000000 in
theorem vsplitseq (s : ByteArray) (w : World) : Calls Tryz.prog 278 #[.string s, .string ⟨#[44]⟩, .int .i64 0] w fun e w' => e = .returned (.func (.func 285) #[] #[.pointer (some ⟨w.heap.size + 1, 0, none⟩), .pointer (some ⟨w.heap.size, 0, none⟩), .pointer (some ⟨w.heap.size + 2, 0, none⟩)]) ∧
    w' = ((w.alloc (.cells #[.string s] 9)).alloc (.cells #[.string ⟨#[44]⟩] 9)).alloc (.cells #[.int .i64 0] 3) := by
  go_enter Tryz.func278, Tryz.ntmps278
  go_wp2
  go_ret
  exact ⟨rfl, rfl⟩
set_option maxHeartbeats 1000000 in
theorem vSplitSeq (s : ByteArray) (w : World) : Calls Tryz.prog 266 #[.string s, .string ⟨#[44]⟩] w fun e w' => e = .returned (.func (.func 285) #[] #[.pointer (some ⟨w.heap.size + 1, 0, none⟩), .pointer (some ⟨w.heap.size, 0, none⟩), .pointer (some ⟨w.heap.size + 2, 0, none⟩)]) ∧
    w' = ((w.alloc (.cells #[.string s] 9)).alloc (.cells #[.string ⟨#[44]⟩] 9)).alloc (.cells #[.int .i64 0] 3) := by
  go_enter Tryz.func266, Tryz.ntmps266
  go_wp2_with fail
  refine (vsplitseq s _).mono ?_
  rintro e w' ⟨rfl, rfl⟩
  go_wp2_with fail
  go_ret
  exact ⟨rfl, rfl⟩
def errN (m e : Nat) : Value := .tuple #[.int .u64 (m : Int), .int .i64 (e : Int)]
structure PSt (w : World) (H : Nat) (pre : List ByteArray) (W : World) : Prop where
  r1 : Boxed W H 88 (.int .u64 0)
  r2 : Boxed W (H + 1) 112 (.int .i64 0)
  m : Boxed W (H + 2) 88 (.int .u64 ((accM pre : Nat) : Int))
  g : Boxed W (H + 3) 4 (.bool (pre.any greatB))
  ok : pre.any badB = false
  lt : Below H w W
structure PStX (w : World) (H : Nat) (c : Code) (pre : List ByteArray) (W : World) : Prop where
  ret : c = .ret
  r1 : Boxed W H 88 (.int .u64 0)
  r2 : Boxed W (H + 1) 112 (.int .i64 11)
  ok : pre.any badB = true
  lt : Below H w W
theorem PSt.below {w A B : World} {H : Nat} {pre : List ByteArray} (h : PSt w H pre A) (hb : Below (H + 4) A B) : PSt w H pre B :=
  ⟨Boxed.below h.r1 hb (by omega), Boxed.below h.r2 hb (by omega), Boxed.below h.m hb (by omega), Boxed.below h.g hb (by omega), h.ok, h.lt.trans (hb.mono (by omega))⟩
theorem PStX.below {w A B : World} {H : Nat} {c : Code} {pre : List ByteArray} (h : PStX w H c pre A) (hb : Below (H + 4) A B) : PStX w H c pre B :=
  ⟨h.ret, Boxed.below h.r1 hb (by omega), Boxed.below h.r2 hb (by omega), h.ok, h.lt.trans (hb.mono (by omega))⟩
theorem others_of_below {A B : World} (h : Below A.heap.size A B) : KeepsOthers A B :=
  ⟨h.size, fun k _ hk _ => (h.block k (Array.getElem?_eq_some_iff.1 hk).1).trans hk⟩
theorem held_of_below {A B : World} {lo hi n : Nat} (h : Below n A B) (hn : hi ≤ n) : Held lo hi A B := fun b _ h2 => h.block b (by omega)
/-- Nothing but block B, and new ones, differs. -/
structure Only (B : Nat) (A C : World) : Prop where
  size : A.heap.size ≤ C.heap.size
  same : ∀ c, c < A.heap.size → c ≠ B → C.heap[c]? = A.heap[c]?
theorem Only.refl (B : Nat) (A : World) : Only B A A := ⟨Nat.le_refl _, fun _ _ _ => rfl⟩
theorem Only.trans {B : Nat} {A C D : World} (h : Only B A C) (k : Only B C D) : Only B A D :=
  ⟨Nat.le_trans h.size k.size, fun c h1 h2 => (k.same c (Nat.lt_of_lt_of_le h1 h.size) h2).trans (h.same c h1 h2)⟩
theorem Only.of_below {B : Nat} {A C : World} (h : Below A.heap.size A C) : Only B A C := ⟨h.size, fun c h1 _ => h.block c h1⟩
theorem Only.set (B : Nat) (A : World) (v : Value) : Only B A (A.setCell ⟨B, 0, none⟩ v) := ⟨by simp, fun c _ h2 => Below.heap_setCell A ⟨B, 0, none⟩ v c h2⟩
theorem Only.others {B : Nat} {A C : World} (h : Only B A C) {cs : Array Value} {t : TypeId} {f : Nat × Nat} (hb : A.heap[B]? = some (.cells cs t f)) : KeepsOthers A C :=
  ⟨h.size, fun k o hk ho => (h.same k (Array.getElem?_eq_some_iff.1 hk).1 (fun e => by subst e; rw [hb] at hk; cases hk; cases ho)).trans hk⟩
theorem Only.held {B lo hi : Nat} {A C : World} (h : Only B A C) (hB : B < lo) (hhi : hi ≤ A.heap.size) : Held lo hi A C := fun b h1 h2 => h.same b (by omega) (by omega)
theorem Only.boxed {B D : Nat} {A C : World} {t : TypeId} {v : Value} (h : Only B A C) (hb : Boxed A D t v) (hne : D ≠ B) : Boxed C D t v := (h.same D hb.lt hne).trans hb
theorem Only.drew {B : Nat} {A C : World} (h : Only B A C) : Only B A C.drew := ⟨h.size, h.same⟩
theorem Boxed.drew {B : Nat} {A : World} {t : TypeId} {v : Value} (h : Boxed A B t v) : Boxed A.drew B t v := h
def orK (m a k : Nat) : Nat := (List.range' a (k - a)).foldl (fun m n => m ||| 2 ^ n) m
theorem orK_start (m a : Nat) : orK m a a = m := by unfold orK; rw [Nat.sub_self]; rfl
theorem orK_succ (m a k : Nat) (h : a ≤ k) : orK m a (k + 1) = orK m a k ||| 2 ^ k := orR_succ m a k h
theorem orK_end (m a b : Nat) : orK m a (b + 1) = orR m a b := rfl
theorem orK_lt {m a k : Nat} (hm : m < 4294967296) (hk : k ≤ 32) : orK m a k < 4294967296 := orF_lt _ _ hm fun x hx => by have := List.mem_range'_1.1 hx; omega
theorem orK_bits {m a k : Nat} (hm : m < 4294967296) (hk : k < 32) (ha : a ≤ k) : bits .or .u64 ((orK m a k : Nat) : Int) (IntKind.u64.wrap (2 ^ k)) = ((orK m a (k + 1) : Nat) : Int) := by
  rw [show ((2 : Int) ^ k) = 2 ^ ((k : Int)).toNat by rw [Int.toNat_natCast], or_bits (z := (k : Int)) (orK_lt hm (by omega)) (by omega) (by omega), orK_succ m a k ha]; rfl
theorem accM_nil : accM [] = 0 := rfl
theorem any_snoc (f : ByteArray → Bool) (L : List ByteArray) (x : ByteArray) : (L ++ [x]).any f = (L.any f || f x) := by simp
theorem readL_bad {L : List ByteArray} (h : L.any badB = true) : readL L = (0, 11) := if_pos h
theorem readL_great {L : List ByteArray} (h : L.any badB = false) (k : L.any greatB = true) : readL L = (0, 10) := by unfold readL; rw [h, k]; rfl
theorem readL_ok {L : List ByteArray} (h : L.any badB = false) (k : L.any greatB = false) : readL L = (accM L, 0) := by unfold readL; rw [h, k]; rfl
theorem put_cells {W : World} {D H : Nat} {v1 v2 : Value} (a1 : Boxed W H 88 v1) (a2 : Boxed W (H + 1) 112 v2) (hD : H + 7 ≤ D) :
    (W.putObj D (.deferred none)).cell? ⟨H, 0, none⟩ = some v1 ∧ (W.putObj D (.deferred none)).cell? ⟨H + 1, 0, none⟩ = some v2 := by
  have e1 : Boxed (W.putObj D (.deferred none)) H 88 v1 := (World.putObj_heap_other (by omega)).trans a1
  have e2 : Boxed (W.putObj D (.deferred none)) (H + 1) 112 v2 := (World.putObj_heap_other (by omega)).trans a2
  exact ⟨e1.cell, e2.cell⟩
theorem put_below {w W : World} {D H : Nat} {o : Obj} (h : Below H w W) (hD : H ≤ D) (hK : W.heap[D]? = some o) (o' : Obj) : Below H w (W.putObj D o') :=
  h.trans (below_put W o' hD (Array.getElem?_eq_some_iff.1 hK).1)
theorem bad_x {x : ByteArray} (h : spanS x = none) : badB x = true := by unfold badB; rw [h]; rfl
theorem good_x {x : ByteArray} {p : Nat × Nat} (h : spanS x = some p) : badB x = false := by unfold badB; rw [h]; rfl
theorem great_x {x : ByteArray} {a b : Nat} (h : spanS x = some (a, b)) (k : 32 ≤ b) : greatB x = true := by unfold greatB; rw [h]; simpa using k
theorem small_x {x : ByteArray} {a b : Nat} (h : spanS x = some (a, b)) (k : b < 32) : greatB x = false := by unfold greatB; rw [h]; simpa using k
theorem acc_great {x : ByteArray} {a b : Nat} (L : List ByteArray) (h : spanS x = some (a, b)) (k : 32 ≤ b) : accM (L ++ [x]) = accM L := by rw [accM_snoc]; unfold stepM; rw [h]; exact if_pos k
theorem acc_small {x : ByteArray} {a b : Nat} (L : List ByteArray) (h : spanS x = some (a, b)) (k : b < 32) : accM (L ++ [x]) = orK (accM L) a (b + 1) := by rw [accM_snoc]; unfold stepM; rw [h]; exact if_neg (by omega)
attribute [local irreducible] accM badB greatB readL piecesOf spanS
end Go.Proofs.YtollifnnpihfdaaGreatDoor
/- Clean of the program's paths: a range over strings.SplitSeq. -/
namespace Go.Proofs.YtollifnnpihfdaaGreatDoor
open Go.RowKit
attribute [local go_sem] Oper.semAt_some
theorem vsplitseqP (s : ByteArray) (w : World) : Calls Tryz.prog 278 #[.string s, .string ⟨#[47]⟩, .int .i64 0] w fun e w' => e = .returned (.func (.func 285) #[] #[.pointer (some ⟨w.heap.size + 1, 0, none⟩), .pointer (some ⟨w.heap.size, 0, none⟩), .pointer (some ⟨w.heap.size + 2, 0, none⟩)]) ∧
    w' = ((w.alloc (.cells #[.string s] 9)).alloc (.cells #[.string ⟨#[47]⟩] 9)).alloc (.cells #[.int .i64 0] 3) := by
  go_enter Tryz.func278, Tryz.ntmps278
  go_wp2
  go_ret
  exact ⟨rfl, rfl⟩
set_option maxHeartbeats 1000000 in
theorem vSplitSeqP (s : ByteArray) (w : World) : Calls Tryz.prog 266 #[.string s, .string ⟨#[47]⟩] w fun e w' => e = .returned (.func (.func 285) #[] #[.pointer (some ⟨w.heap.size + 1, 0, none⟩), .pointer (some ⟨w.heap.size, 0, none⟩), .pointer (some ⟨w.heap.size + 2, 0, none⟩)]) ∧
    w' = ((w.alloc (.cells #[.string s] 9)).alloc (.cells #[.string ⟨#[47]⟩] 9)).alloc (.cells #[.int .i64 0] 3) := by
  go_enter Tryz.func266, Tryz.ntmps266
  go_wp2_with fail
  refine (vsplitseqP s _).mono ?_
  rintro e w' ⟨rfl, rfl⟩
  go_wp2_with fail
  go_ret
  exact ⟨rfl, rfl⟩
structure CSt (w : World) (H : Nat) (pre : List ByteArray) (W : World) : Prop where
  r : Boxed W H 4 (.bool false)
  ok : pre.all nameB = true
  lt : Below H w W
structure CStX (w : World) (H : Nat) (c : Code) (pre : List ByteArray) (W : World) : Prop where
  ret : c = .ret
  r : Boxed W H 4 (.bool false)
  ok : pre.all nameB = false
  lt : Below H w W
theorem CSt.below {w A B : World} {H : Nat} {pre : List ByteArray} (h : CSt w H pre A) (hb : Below (H + 1) A B) : CSt w H pre B :=
  ⟨Boxed.below h.r hb (by omega), h.ok, h.lt.trans (hb.mono (by omega))⟩
theorem CStX.below {w A B : World} {H : Nat} {c : Code} {pre : List ByteArray} (h : CStX w H c pre A) (hb : Below (H + 1) A B) : CStX w H c pre B :=
  ⟨h.ret, Boxed.below h.r hb (by omega), h.ok, h.lt.trans (hb.mono (by omega))⟩
theorem all_snocC (L : List ByteArray) (x : ByteArray) : (L ++ [x]).all nameB = (L.all nameB && nameB x) := by simp
theorem clean_root {s : ByteArray} (h : (s.toList == [47]) = true) : cleanB s = true := by unfold cleanB; rw [h]; rfl
theorem clean_no {s : ByteArray} (h : (s.toList == [47]) = false) (k : Lib.hasPrefix s.data.toList [47] = false) : cleanB s = false := by
  unfold cleanB
  rw [h, Bool.false_or]
  have : (s.data.toList.head? == some 47) = false := by
    cases hd : s.data.toList with
    | nil => rfl
    | cons c r =>
      rw [hd] at k
      have : (47 : UInt8) ≠ c := by
        intro e
        subst e
        simp [Lib.hasPrefix, List.isPrefixOf] at k
      simp only [List.head?_cons]
      rw [beq_eq_false_iff_ne]
      intro e; injection e with e; exact this e.symm
  rw [this]; rfl
theorem clean_yes {s : ByteArray} (h : (s.toList == [47]) = false) (k : Lib.hasPrefix s.data.toList [47] = true) {L : List ByteArray} (hw : IsW 47 (restOf s) L) : cleanB s = L.all nameB := by
  unfold cleanB
  rw [h, Bool.false_or]
  have : (s.data.toList.head? == some 47) = true := by
    obtain ⟨r, hr⟩ := List.isPrefixOf_iff_prefix.1 k
    rw [← hr]; rfl
  rw [this, Bool.true_and, pieces_of hw]
theorem rest_trim {s : ByteArray} (k : Lib.hasPrefix s.data.toList [47] = true) : (⟨(Lib.trimPrefix s.data.toList [47]).toArray⟩ : ByteArray) = restOf s := by
  refine data_inj ?_
  rw [rest_list]
  unfold Lib.trimPrefix
  rw [if_pos k]; simp
theorem vcutprefixP (s : ByteArray) (p : ByteArray) (w : World) : Calls Tryz.prog 265 #[.string s, .string p] w fun e w' => e = .returned (.tuple #[.string ⟨(Lib.trimPrefix s.data.toList p.data.toList).toArray⟩, .bool (Lib.hasPrefix s.data.toList p.data.toList)]) ∧ w = w' :=
  (Tryz.strings_CutPrefix s p w).mono fun _ _ h => ⟨h.1, h.2.symm⟩
attribute [local irreducible] nameB cleanB piecesOf
set_option maxRecDepth 100000 in
set_option maxHeartbeats 4000000 in
theorem vpclean (s : ByteArray) (w : World) (hs : s.size ≤ 100000) : Calls Tryz.prog 243 #[.string s] w fun e w' => e = .returned (.bool (cleanB s)) ∧ Below w.heap.size w w' := by
  cases h0 : (s.toList == [47])
  · cases hp : Lib.hasPrefix s.data.toList [47]
    · have HR := Lib.hid (clean_no h0 hp)
      have HP := Lib.hid hp
      clear hp
      go_enter Tryz.func243, Tryz.ntmps243
      go_wp2_with fail
      refine (vcutprefixP s _ _).mono ?_
      rintro e w1 ⟨rfl, rfl⟩
      rw [show Lib.hasPrefix s.data.toList (⟨#[47]⟩ : ByteArray).data.toList = false from HP.out]
      go_wp2_with fail
      refine bodyPost_ret (v := .bool false) (by simp [results, Tryz.results243, go_sem]) rfl ⟨ret_b HR.out.symm, ?_⟩
      exact (Below.refl _ _).alloc (Nat.le_refl _) _
    · have hmix : Tryz.prog.follows .mixedOrders = true := by kernel_rfl
      have HY := Lib.hid (fun L hw => clean_yes (L := L) h0 hp hw)
      have HP := Lib.hid hp
      have HT := Lib.hid (rest_trim hp)
      have hrs : (restOf s).size ≤ 100000 := by unfold restOf; rw [ByteArray.size_extract]; omega
      clear hp
      generalize restOf s = r at *
      refine (callsIn_wide (n := 20)).1 ?_
      refine callsIn_of_wp_marks Tryz.func243 rfl trivial ?_ rfl
      simp only [Tryz.ntmps243, List.size_toArray, List.length_cons, List.length_nil, Nat.reduceAdd, Nat.reduceSub, Array.replicate_succ, Array.replicate_zero, List.push_toArray, List.append_toArray, List.nil_append, List.cons_append]
      gi_wp2_with (refine ⟨trivial, ?_⟩; gi_at_call 265; refine (callsIn_wide.2 (vcutprefixP s _ _)).mono ?_; rintro e w' ⟨rfl, rfl⟩; rw [show Lib.hasPrefix s.data.toList (⟨#[47]⟩ : ByteArray).data.toList = true from HP.out, show (⟨(Lib.trimPrefix s.data.toList (⟨#[47]⟩ : ByteArray).data.toList).toArray⟩ : ByteArray) = r from HT.out])
      gi_wp2_with (refine ⟨trivial, ?_⟩; gi_at_call 266; refine (callsIn_wide.2 (vSplitSeqP r _)).mono ?_; rintro e w' ⟨rfl, rfl⟩)
      obtain ⟨W0, hW0⟩ : ∃ W0, (((w.alloc (Obj.cells #[Value.bool false] 4)).alloc (Obj.cells #[Value.string r] 9)).alloc (Obj.cells #[Value.string ⟨#[47]⟩] 9)).alloc (Obj.cells #[Value.int IntKind.i64 0] 3) = W0 := ⟨_, rfl⟩
      obtain ⟨H, hH⟩ : ∃ H, w.heap.size = H := ⟨_, rfl⟩
      have hsz : W0.heap.size = H + 4 := by rw [← hW0, ← hH]; simp
      have hlt0 : Below H w W0 := by rw [← hW0, ← hH]; exact ((((Below.refl _ _).alloc (Nat.le_refl _) _).alloc (by simp) _).alloc (by simp; omega) _).alloc (by simp; omega) _
      have c0 := Boxed.new w 4 (.bool false)
      have c1 := Boxed.new (w.alloc (Obj.cells #[Value.bool false] 4)) 9 (.string r)
      have c2 := Boxed.new ((w.alloc (Obj.cells #[Value.bool false] 4)).alloc (Obj.cells #[Value.string r] 9)) 9 (.string ⟨#[47]⟩)
      have c3 := Boxed.new (((w.alloc (Obj.cells #[Value.bool false] 4)).alloc (Obj.cells #[Value.string r] 9)).alloc (Obj.cells #[Value.string ⟨#[47]⟩] 9)) 3 (.int .i64 0)
      simp only [World.size_alloc, hH] at c0 c1 c2 c3
      have hP0 : CSt w H [] W0 := by
        rw [← hW0]
        exact ⟨((c0.alloc _).alloc _).alloc _, rfl, by rw [hW0]; exact hlt0⟩
      have b1 : Boxed W0 (H + 1) 9 (.string r) := by rw [← hW0]; exact (c1.alloc _).alloc _
      have b2 : Boxed W0 (H + 1 + 1) 9 (.string ⟨#[47]⟩) := by rw [← hW0]; exact c2.alloc _
      have b3 : Boxed W0 (H + 1 + 2) 3 (.int .i64 0) := by rw [← hW0]; exact c3
      rw [hW0, hH]
      clear c0 c1 c2 c3 hW0
      refine range_state (lo := H + 1) (hi := H + 1 + 3) rfl (by decide) (gf := 285) (lb := #[.pointer (some ⟨H + 1 + 1, 0, none⟩), .pointer (some ⟨H + 1, 0, none⟩), .pointer (some ⟨H + 1 + 2, 0, none⟩)]) rfl trivial (enters_of Tryz.func285 (by kernel_rfl) rfl)
        (by omega) (by omega) (split_seqP (20 - 1) (H + 1) (by decide) r W0 hrs b1 b2 b3) rfl
        (CSt w H) (CStX w H) (fun _ _ _ h hb => h.below hb) (fun _ _ _ _ h hb => h.below hb) hP0
        (fun x => { tmps := #[Value.string s, undef, Value.pointer (some ⟨H, 0, none⟩), Value.string r, Value.bool true, .string x, Value.string s, Value.bool false, Value.tuple #[Value.string r, Value.bool true],
              Value.string s, Value.tuple #[Value.string r, Value.bool true], Value.string r, Value.bool true, Value.bool true, Value.bool false, Value.string r,
              Value.func (Fn.func 285) #[] #[Value.pointer (some ⟨H + 1 + 1, 0, none⟩), Value.pointer (some ⟨H + 1, 0, none⟩), Value.pointer (some ⟨H + 1 + 2, 0, none⟩)],
              .string x, undef, undef, undef], defers := [] }) ?assign ?body ?done ?stop
      case assign =>
        intro l x W K hK
        gi_wp2
        exact hK
      case body =>
        rintro l pre x W hG hI hhi hlen
        have hn1 : 1 ≤ 20 - 1 - 1 := by decide
        gi_wp2_with fail
        refine ⟨trivial, (CallsIn.inRound l (callsIn_wide.2 (vpname x (by omega) W))).mono ?_⟩
        rintro e w1 ⟨rfl, hb⟩
        have hI1 := hI.below (hb.mono (by omega))
        have HHb := Lib.hid hb
        clear hb
        cases hn : nameB x
        · have HN := Lib.hid hn
          have f1 := hI1.r.cell
          have f5 := hI1.r.frozen
          clear hn
          gi_wp2_with fail
          exact ⟨(others_of_below HHb.out).trans (KeepsOthers.setCell _ _ _), rfl, hI1.r.set _, by rw [all_snocC, HN.out, Bool.and_false], hI1.lt.setCell (p := ⟨H, 0, none⟩) (Nat.le_refl _) _⟩
        · have HN := Lib.hid hn
          clear hn
          gi_wp2_with fail
          exact ⟨others_of_below HHb.out, held_of_below HHb.out (by omega), hI1.r, by rw [all_snocC, hI1.ok, HN.out]; rfl, hI1.lt⟩
      case done =>
        rintro D ys W hD hS hI hK
        have HR := Lib.hid (show cleanB s = true by rw [HY.out ys hS, hI.ok])
        have f1 := hI.r.cell
        have f5 := hI.r.frozen
        have r1 := hI.r
        have hbB : Below H w W := hI.lt
        gi_wp2
        have k1 := (KeepsOthers.setCell W ⟨H, 0, none⟩ (.bool true)).same D _ hK rfl
        have g1 := r1.set (.bool true)
        have d1 : ((W.setCell ⟨H, 0, none⟩ (.bool true)).putObj D (.deferred none)).cell? ⟨H, 0, none⟩ = some (.bool true) := Boxed.cell (show Boxed _ H 4 (.bool true) from (World.putObj_heap_other (by omega)).trans g1)
        refine ⟨by simp, .inl ⟨_, _, rfl, run_takeDeferred k1, ?_⟩⟩
        refine ⟨.bool true, by simp [results, Tryz.results243, go_sem, d1], by rw [HR.out], ?_⟩
        rw [hH]
        exact put_below (hbB.setCell (p := ⟨H, 0, none⟩) (Nat.le_refl _) _) (by omega) k1 _
      case stop =>
        rintro D c pre W hD ⟨rest, hS⟩ hI hK
        obtain ⟨rfl, r1, hok, hbB⟩ := hI
        have HR := Lib.hid (show cleanB s = false by rw [HY.out _ hS, List.all_append, hok, Bool.false_and])
        gi_wp2
        have d1 : (W.putObj D (.deferred none)).cell? ⟨H, 0, none⟩ = some (.bool false) := Boxed.cell (show Boxed _ H 4 (.bool false) from (World.putObj_heap_other (by omega)).trans r1)
        refine ⟨by simp, .inl ⟨_, _, rfl, run_takeDeferred hK, ?_⟩⟩
        refine ⟨.bool false, by simp [results, Tryz.results243, go_sem, d1], by rw [HR.out], ?_⟩
        rw [hH]
        exact put_below hbB (by omega) hK _
  · have HR := Lib.hid (clean_root h0)
    go_enter Tryz.func243, Tryz.ntmps243
    go_wp2_with fail
    refine bodyPost_ret (v := .bool true) (by simp [results, Tryz.results243, go_sem]) rfl ⟨ret_b HR.out.symm, ?_⟩
    exact (Below.refl _ _).alloc (Nat.le_refl _) _
end Go.Proofs.YtollifnnpihfdaaGreatDoor
/- watchFits of the program returns watchB. -/
namespace Go.Proofs.YtollifnnpihfdaaGreatDoor
open Go.RowKit
attribute [local irreducible] cleanB
theorem rul_box (w : World) (r : Rul) (v : Value) : RulB (w.alloc (.cells (rulC r v) 90)) w.heap.size r v ∧ Below w.heap.size w (w.alloc (.cells (rulC r v) 90)) := ⟨Blk.new w _ _, (Below.refl _ _).alloc (Nat.le_refl _) _⟩
theorem rul_cells {w : World} {g : Nat} {r : Rul} {v : Value} (h : RulB w g r v) : w.cell? ⟨g, 0, none⟩ = some (.int .i64 r.li) ∧ w.cell? ⟨g, 1, none⟩ = some (.int .i64 r.ac) ∧ w.cell? ⟨g, 2, none⟩ = some (.int .u64 (r.ca : Int)) ∧ w.cell? ⟨g, 3, none⟩ = some v ∧ w.cell? ⟨g, 4, none⟩ = some (.int .i64 r.wa) ∧ w.cell? ⟨g, 5, none⟩ = some (.string r.pa) ∧ w.cell? ⟨g, 6, none⟩ = some (.int .i64 r.pe) ∧ w.cell? ⟨g, 7, none⟩ = some (.string r.ke) :=
  ⟨h.c0, h.c1, h.c2, h.c3, h.c4, h.c5, h.c6, h.c7⟩
theorem watchB_zero {wa pe li : Int} {pa : ByteArray} (h : wa = 0) : watchB wa pe li pa = decide (pa.size = 0 ∧ pe = 0) := by unfold watchB; rw [if_pos h]
theorem watchB_some {wa pe li : Int} {pa : ByteArray} (h : wa = 1 ∨ wa = 2) : watchB wa pe li pa = (decide (li = 3) && cleanB pa && decide (pa.size ≤ 128 ∧ 1 ≤ pe ∧ pe ≤ 15)) := by unfold watchB; rw [if_neg (by omega), if_pos h]
theorem watchB_none {wa pe li : Int} {pa : ByteArray} (h0 : wa ≠ 0) (h1 : wa ≠ 1) (h2 : wa ≠ 2) : watchB wa pe li pa = false := by unfold watchB; rw [if_neg h0, if_neg (by omega)]
set_option maxRecDepth 100000 in
set_option maxHeartbeats 4000000 in
theorem vwatch (r : Rul) (A : Option Addr) (n c : Nat) (hp : r.pa.size ≤ 100000) (w : World) : Calls Tryz.prog 180 #[rulV r (.slice A n c)] w fun e w' => e = .returned (.bool (watchB r.wa r.pe r.li r.pa)) ∧ Below w.heap.size w w' := by
  obtain ⟨HG, HB⟩ := rul_box w r (.slice A n c)
  have HB := Lib.hid HB
  have HG := Lib.hid HG
  obtain ⟨li, ac, ca, ts, wa, pa, pe, ke⟩ := r
  simp only at hp HG HB ⊢
  by_cases h0 : wa = 0
  · subst h0
    rw [watchB_zero rfl]
    by_cases hz : pa.size = 0
    · have e1 := emptyF hz
      by_cases hq : pe = 0
      · have HR := Lib.hid (show decide (pa.size = 0 ∧ pe = 0) = true from decide_eq_true ⟨hz, hq⟩)
        have b1 : (pe == 0) = true := by simpa using hq
        rw [HR.out]
        clear hz hq
        go_enter Tryz.func180, Tryz.ntmps180
        go_wp2_with fail
        go_ret
        exact ⟨rfl, HB.out⟩
      · have HR := Lib.hid (show decide (pa.size = 0 ∧ pe = 0) = false from decide_eq_false (fun h => hq h.2))
        have b1 : (pe == 0) = false := by simpa using hq
        rw [HR.out]
        clear hz hq
        go_enter Tryz.func180, Tryz.ntmps180
        go_wp2_with fail
        go_ret
        exact ⟨rfl, HB.out⟩
    · have e1 := nonemptyF hz
      have e2 : pa.toList.isEmpty = false := by simpa using e1
      have HR := Lib.hid (show decide (pa.size = 0 ∧ pe = 0) = false from decide_eq_false (fun h => hz h.1))
      rw [HR.out]
      clear hz
      go_enter Tryz.func180, Tryz.ntmps180
      go_wp2_with fail
      go_ret
      exact ⟨rfl, HB.out⟩
  · by_cases h12 : wa = 1 ∨ wa = 2
    · rw [watchB_some h12]
      have b0 : (wa == 0) = false := by simpa using h0
      have HC := Lib.hid (fun W => vpclean pa W hp)
      by_cases h3 : li = 3
      · subst h3
        by_cases hs : pa.size ≤ 128
        · have hs' : ((pa.size : Int) ≤ 128) := by omega
          by_cases hp1 : 1 ≤ pe
          · by_cases hp2 : pe ≤ 15
            · have HR := Lib.hid (show (decide ((3 : Int) = 3) && cleanB pa && decide (pa.size ≤ 128 ∧ 1 ≤ pe ∧ pe ≤ 15)) = cleanB pa by rw [decide_eq_true (show pa.size ≤ 128 ∧ 1 ≤ pe ∧ pe ≤ 15 from ⟨hs, hp1, hp2⟩)]; simp)
              rw [HR.out]
              generalize cleanB pa = cb at *
              clear hs
              rcases h12 with rfl | rfl
              all_goals
                clear h0 b0
                cases cb
                all_goals
                  go_enter Tryz.func180, Tryz.ntmps180
                  go_wp2_with fail
                  refine (HC.out _).mono ?_
                  rintro e w1 ⟨rfl, hb⟩
                  have HB1 := Lib.hid (HB.out.trans (hb.mono HB.out.size))
                  obtain ⟨q0, q1, q2, q3, q4, q5, q6, q7⟩ := rul_cells (Blk.below HG.out hb)
                  clear hb
                  go_wp2_with fail
                  go_ret
                  exact ⟨rfl, HB1.out⟩
            · have d1 : decide (pe ≤ 15) = false := decide_eq_false hp2
              have HR := Lib.hid (show (decide ((3 : Int) = 3) && cleanB pa && decide (pa.size ≤ 128 ∧ 1 ≤ pe ∧ pe ≤ 15)) = false by rw [decide_eq_false (show ¬ (pa.size ≤ 128 ∧ 1 ≤ pe ∧ pe ≤ 15) from fun h => hp2 h.2.2)]; simp)
              clear hp2
              rw [HR.out]
              generalize cleanB pa = cb at *
              clear hs
              rcases h12 with rfl | rfl
              all_goals
                clear h0 b0
                cases cb
                all_goals
                  go_enter Tryz.func180, Tryz.ntmps180
                  go_wp2_with fail
                  refine (HC.out _).mono ?_
                  rintro e w1 ⟨rfl, hb⟩
                  have HB1 := Lib.hid (HB.out.trans (hb.mono HB.out.size))
                  obtain ⟨q0, q1, q2, q3, q4, q5, q6, q7⟩ := rul_cells (Blk.below HG.out hb)
                  clear hb
                  go_wp2_with fail
                  go_ret
                  exact ⟨rfl, HB1.out⟩
          · have d1 : decide (1 ≤ pe) = false := decide_eq_false hp1
            have HR := Lib.hid (show (decide ((3 : Int) = 3) && cleanB pa && decide (pa.size ≤ 128 ∧ 1 ≤ pe ∧ pe ≤ 15)) = false by rw [decide_eq_false (show ¬ (pa.size ≤ 128 ∧ 1 ≤ pe ∧ pe ≤ 15) from fun h => hp1 h.2.1)]; simp)
            clear hp1
            rw [HR.out]
            generalize cleanB pa = cb at *
            clear hs
            rcases h12 with rfl | rfl
            all_goals
              clear h0 b0
              cases cb
              all_goals
                go_enter Tryz.func180, Tryz.ntmps180
                go_wp2_with fail
                refine (HC.out _).mono ?_
                rintro e w1 ⟨rfl, hb⟩
                have HB1 := Lib.hid (HB.out.trans (hb.mono HB.out.size))
                obtain ⟨q0, q1, q2, q3, q4, q5, q6, q7⟩ := rul_cells (Blk.below HG.out hb)
                clear hb
                go_wp2_with fail
                go_ret
                exact ⟨rfl, HB1.out⟩
        · have hs' : ¬ ((pa.size : Int) ≤ 128) := by omega
          have HR := Lib.hid (show (decide ((3 : Int) = 3) && cleanB pa && decide (pa.size ≤ 128 ∧ 1 ≤ pe ∧ pe ≤ 15)) = false by rw [decide_eq_false (show ¬ (pa.size ≤ 128 ∧ 1 ≤ pe ∧ pe ≤ 15) from fun h => hs h.1)]; simp)
          rw [HR.out]
          generalize cleanB pa = cb at *
          clear hs
          rcases h12 with rfl | rfl
          all_goals
            clear h0 b0
            cases cb
            all_goals
              go_enter Tryz.func180, Tryz.ntmps180
              go_wp2_with fail
              refine (HC.out _).mono ?_
              rintro e w1 ⟨rfl, hb⟩
              have HB1 := Lib.hid (HB.out.trans (hb.mono HB.out.size))
              obtain ⟨q0, q1, q2, q3, q4, q5, q6, q7⟩ := rul_cells (Blk.below HG.out hb)
              clear hb
              go_wp2_with fail
              go_ret
              exact ⟨rfl, HB1.out⟩
      · have HR := Lib.hid (show (decide (li = 3) && cleanB pa && decide (pa.size ≤ 128 ∧ 1 ≤ pe ∧ pe ≤ 15)) = false by rw [decide_eq_false h3]; simp)
        have b3 : (li == 3) = false := by simpa using h3
        rw [HR.out]
        clear h3
        rcases h12 with rfl | rfl
        all_goals
          clear h0 b0
          go_enter Tryz.func180, Tryz.ntmps180
          go_wp2_with fail
          go_ret
          exact ⟨rfl, HB.out⟩
    · have h1 : wa ≠ 1 := fun h => h12 (.inl h)
      have h2 : wa ≠ 2 := fun h => h12 (.inr h)
      rw [watchB_none h0 h1 h2]
      have b0 : (wa == 0) = false := by simpa using h0
      have b1 : (wa == 1) = false := by simpa using h1
      have b2 : (wa == 2) = false := by simpa using h2
      clear h0 h1 h2 h12
      go_enter Tryz.func180, Tryz.ntmps180
      go_wp2_with fail
      go_ret
      exact ⟨rfl, HB.out⟩
end Go.Proofs.YtollifnnpihfdaaGreatDoor

/- Texts of one proof, laid together. -/
import Derived.Test.YtbbihfafkpniiaaGreatDoorC14
import Derived.Test.YtbbihfafkpniiaaGreatDoorC06
import Derived.Test.YtbbihfafkpniiaaGreatDoorC01
import Derived.RangeFuncBox
import Derived.Shelf.Abstract
import Derived.Shelf.RegionOpen
import Derived.WalkKit
import Derived.OwnWalkIn
import Derived.TacticsInMore
import Derived.LoopNIn
import Derived.LoopIn
import Derived.Lib.Hide
import Derived.Outline
import Derived.Test.YtbbihfafkpniiaaGreatDoorProg
import Derived.Test.YtbbihfafkpniiaaGreatDoorC02
import Derived.WalkSpells
import Derived.LoopTactic
import Derived.IntWalk
import Derived.Deep.QuietTactic
import Derived.BigQuiet
/- strings.SplitSeq at a comma: what its iterator yields. -/
namespace Go.Proofs.YtbbihfafkpniiaaGreatDoor
open Go.RowKit Go.Shelf
attribute [local go_sem] Oper.semAt_some
def leftS (B : Nat) (W : World) : Nat := match W.cell? ⟨B, 0, none⟩ with
  | some (.string r) => r.size
  | _ => 0
theorem leftS_eq {B : Nat} {W : World} {t : TypeId} {r : ByteArray} (h : Boxed W B t (.string r)) : leftS B W = r.size := by unfold leftS; rw [h.cell]
theorem Boxed.below {A W : World} {n B : Nat} {t : TypeId} {v : Value} (h : Boxed A B t v) (hb : Below n A W) (hn : B < n) : Boxed W B t v := (hb.block B hn).trans h
theorem Boxed.held {A W : World} {lo hi B : Nat} {t : TypeId} {v : Value} (h : Boxed A B t v) (hb : Held lo hi A W) (h1 : lo ≤ B) (h2 : B < hi) : Boxed W B t v := (hb B h1 h2).trans h
theorem Boxed.aside {W : World} {B C : Nat} {t : TypeId} {v : Value} (h : Boxed W B t v) (v' : Value) (hne : B ≠ C) : Boxed (W.setCell ⟨C, 0, none⟩ v') B t v := (Below.heap_setCell W ⟨C, 0, none⟩ v' B hne).trans h
theorem mid_set {W : World} {lo hi B : Nat} (v : Value) (h1 : lo ≤ B) (h2 : B < hi) : Mid lo hi W (W.setCell ⟨B, 0, none⟩ v) :=
  ⟨(Below.refl lo W).setCell (p := ⟨B, 0, none⟩) h1 v, fun b hb _ => Below.heap_setCell W ⟨B, 0, none⟩ v b (by show b ≠ B; omega)⟩
theorem flat_count (c : UInt8) : ∀ D : List ByteArray, D.length ≤ (flatC c D).length
  | [] => by simp
  | d :: D => by
    have : flatC c (d :: D) = d.data.toList ++ c :: flatC c D := by simp [flatC]
    have ih := flat_count c D
    rw [this]; simp; omega
structure SeqSt (s : ByteArray) (pre : List ByteArray) (r : ByteArray) : Prop where
  eq : flatC 44 pre ++ r.data.toList = s.data.toList
  no : ∀ d ∈ pre, NoC 44 d
theorem SeqSt.start (s : ByteArray) : SeqSt s [] s := ⟨by simp [flatC], by simp⟩
theorem SeqSt.bounds {s r : ByteArray} {pre : List ByteArray} (h : SeqSt s pre r) : pre.length < s.size + 1 ∧ r.size ≤ s.size := by
  have h1 := flat_count 44 pre
  have h2 := congrArg List.length h.eq
  rw [List.length_append, bsz, bsz] at h2
  omega
theorem SeqSt.last {s r : ByteArray} {pre : List ByteArray} (h : SeqSt s pre r) (hn : ∀ x ∈ r.data.toList, x ≠ 44) : IsW 44 s (pre ++ [r]) :=
  isW_flat h.eq h.no ⟨by simp, fun x hx => by rw [List.mem_singleton.1 hx]; exact hn, by simp [joinL, Lib.joinTail]⟩
theorem SeqSt.next {s r : ByteArray} {pre : List ByteArray} (h : SeqSt s pre r) {i : Nat} (hi : i < r.size) (he : r.data.toList = r.data.toList.take i ++ 44 :: r.data.toList.drop (i + 1)) (hn : ∀ x ∈ r.data.toList.take i, x ≠ 44) :
    SeqSt s (pre ++ [r.extract 0 i]) (r.extract (i + 1) r.size) ∧ ∃ rest, IsW 44 s (pre ++ [r.extract 0 i] ++ rest) := by
  have e1 : (r.extract 0 i).data.toList = r.data.toList.take i := by rw [extract_list, List.drop_zero]
  have e2 : (r.extract (i + 1) r.size).data.toList = r.data.toList.drop (i + 1) := by rw [extract_list, List.take_of_length_le (by rw [bsz]; exact Nat.le_refl _)]
  have h1 : SeqSt s (pre ++ [r.extract 0 i]) (r.extract (i + 1) r.size) := by
    refine ⟨?_, ?_⟩
    · rw [flatC_snoc, e1, e2, ← h.eq]
      conv => rhs; rw [he]
      simp
    · intro d hd
      rcases List.mem_append.1 hd with hd | hd
      · exact h.no d hd
      · rw [List.mem_singleton.1 hd]; intro b hb; rw [e1] at hb; exact hn b hb
  exact ⟨h1, piecesOf 44 (r.extract (i + 1) r.size), isW_flat h1.eq h1.no (isW_pieces _ _)⟩
theorem vidx (s : ByteArray) (c : UInt8) (w : World) : Calls Tryz.prog 112 #[.string s, .string ⟨#[c]⟩] w fun e w' => e = .returned (.int .i64 (Lib.indexByte s.data.toList c)) ∧ w = w' :=
  (Tryz.strings_Index_one s c w).mono fun _ _ h => ⟨h.1, h.2.symm⟩
set_option maxRecDepth 100000 in
set_option maxHeartbeats 2000000 in
theorem split_seq (n B : Nat) (hn : 1 ≤ n) (s : ByteArray) (w : World) (hs : s.size ≤ 100000) (b1 : Boxed w B 9 (.string s)) (b2 : Boxed w (B + 1) 9 (.string ⟨#[44]⟩)) (b3 : Boxed w (B + 2) 3 (.int .i64 0)) :
    SeqC Fence.wide n Tryz.prog 145 #[.pointer (some ⟨B + 1, 0, none⟩), .pointer (some ⟨B, 0, none⟩), .pointer (some ⟨B + 2, 0, none⟩)] (fun x : ByteArray => Value.string x) (fun x => x.size ≤ 100000) B (B + 3)
      (fun xs => IsW 44 s xs) (fun pre => ∃ rest, IsW 44 s (pre ++ rest)) (s.size + 1) w := by
  intro l J Jx W hW hJ hJx hY h0
  have c1 := Boxed.below b1 hW b1.lt
  have c2 := Boxed.below b2 hW b2.lt
  have c3 := Boxed.below b3 hW b3.lt
  clear b1 b2 b3 hW
  refine callsIn_of_wp Tryz.func145 rfl trivial ?_ rfl
  simp only [Tryz.ntmps145, List.size_toArray, List.length_cons, List.length_nil, Nat.reduceAdd, Nat.reduceSub, Array.replicate_succ, Array.replicate_zero, List.push_toArray, List.append_toArray, List.nil_append, List.cons_append]
  have d2 := c2.cell
  gi_wp2
  gi_loopw [7] (fun _ wr => ∃ (pre : List ByteArray) (r : ByteArray), Boxed wr B 9 (.string r) ∧ Boxed wr (B + 1) 9 (.string ⟨#[44]⟩) ∧ Boxed wr (B + 2) 3 (.int .i64 0) ∧ Hid (SeqSt s pre r) ∧ J pre wr) (fun _ wr => leftS B wr)
  case atStart => exact ⟨[], s, c1, c2, c3, Lib.hid (SeqSt.start s), h0⟩
  case round =>
    obtain ⟨pre, r, e1, e2, e3, hst, hj⟩ := hrel
    clear c1 c2 c3 d2 h0
    have e1' := Lib.hid (leftS_eq e1)
    have f1 := e1.cell
    have f2 := e2.cell
    have f3 := e3.cell
    have f4 := e1.frozen
    obtain ⟨hb1, hb2⟩ := hst.out.bounds
    have hrs : r.size ≤ 100000 := by omega
    rcases ib_spec 44 r.data.toList with ⟨h1, h2⟩ | ⟨i, h1, h2, h3, h4⟩
    · have HI := Lib.hid h1
      have HL := Lib.hid (hst.out.last h2)
      obtain ⟨fn, tmps, assign, body, hy, hR⟩ := hY pre r wr hrs hj (by omega)
      clear h1 h2
      gi_wp2_with (refine ⟨trivial, ?_⟩; gi_at_call 112; refine (callsIn_wide.2 (vidx r 44 _)).mono ?_; rintro e w' ⟨rfl, rfl⟩; rw [HI.out])
      refine hR.mono ?_
      rintro e W3 (⟨rfl, hJ3, hk3⟩ | ⟨rfl, hJx3⟩)
      · gi_wp2
        go_end0
        exact ⟨⟨_, rfl⟩, .inl ⟨_, HL.out, hJ3⟩⟩
      · gi_wp2
        go_end0
        exact ⟨⟨_, rfl⟩, .inr ⟨_, ⟨[], by rw [List.append_nil]; exact HL.out⟩, hJx3⟩⟩
    · have HI := Lib.hid h1
      rw [bsz] at h2
      have HL := Lib.hid (hst.out.next h2 h3 h4)
      have c1 : (0 : Int) ≤ (i : Int) := by omega
      have c2 : (i : Int) ≤ (r.size : Int) := by omega
      have c3 : (0 : Int) ≤ (i : Int) + 1 := by omega
      have c4 : (i : Int) + 1 ≤ (r.size : Int) := by omega
      obtain ⟨fn, tmps, assign, body, hy, hR⟩ := hY pre (r.extract 0 i) wr (by simp; omega) hj (by omega)
      clear h1 h3 h4
      gi_wp2_with (refine ⟨trivial, ?_⟩; gi_at_call 112; refine (callsIn_wide.2 (vidx r 44 _)).mono ?_; rintro e w' ⟨rfl, rfl⟩; rw [HI.out])
      refine hR.mono ?_
      rintro e W3 (⟨rfl, hJ3, hk3⟩ | ⟨rfl, hJx3⟩)
      · have g1 := Boxed.held e1 hk3 (Nat.le_refl _) (by omega)
        have g2 := Boxed.held e2 hk3 (by omega) (by omega)
        have g3 := Boxed.held e3 hk3 (by omega) (by omega)
        clear e1 e2 e3 f1 f2 f3 f4 hy hR hj hk3
        have f1 := g1.cell
        have f2 := g2.cell
        have f4 := g1.frozen
        gi_wp2
        go_roundw
        case rel => exact ⟨pre ++ [r.extract 0 i], r.extract (i + 1) r.size, g1.set _, Boxed.aside g2 _ (by omega), Boxed.aside g3 _ (by omega), Lib.hid HL.out.1, hJ _ _ _ hJ3 (mid_set _ (Nat.le_refl _) (by omega))⟩
        case measure => rw [leftS_eq (g1.set _), e1'.out]; simp; omega
      · gi_wp2
        refine bodyPost_ret (results_none rfl _ _ _) rfl ?_
        exact ⟨⟨_, rfl⟩, .inr ⟨_, HL.out.2, hJx3⟩⟩
end Go.Proofs.YtbbihfafkpniiaaGreatDoor
/- strings.SplitSeq at a slash: what its iterator yields. -/
namespace Go.Proofs.YtbbihfafkpniiaaGreatDoor
open Go.RowKit Go.Shelf
attribute [local go_sem] Oper.semAt_some
structure SeqSP (s : ByteArray) (pre : List ByteArray) (r : ByteArray) : Prop where
  eq : flatC 47 pre ++ r.data.toList = s.data.toList
  no : ∀ d ∈ pre, NoC 47 d
theorem SeqSP.start (s : ByteArray) : SeqSP s [] s := ⟨by simp [flatC], by simp⟩
theorem SeqSP.bounds {s r : ByteArray} {pre : List ByteArray} (h : SeqSP s pre r) : pre.length < s.size + 1 ∧ r.size ≤ s.size := by
  have h1 := flat_count 47 pre
  have h2 := congrArg List.length h.eq
  rw [List.length_append, bsz, bsz] at h2
  omega
theorem SeqSP.last {s r : ByteArray} {pre : List ByteArray} (h : SeqSP s pre r) (hn : ∀ x ∈ r.data.toList, x ≠ 47) : IsW 47 s (pre ++ [r]) :=
  isW_flat h.eq h.no ⟨by simp, fun x hx => by rw [List.mem_singleton.1 hx]; exact hn, by simp [joinL, Lib.joinTail]⟩
theorem SeqSP.next {s r : ByteArray} {pre : List ByteArray} (h : SeqSP s pre r) {i : Nat} (hi : i < r.size) (he : r.data.toList = r.data.toList.take i ++ 47 :: r.data.toList.drop (i + 1)) (hn : ∀ x ∈ r.data.toList.take i, x ≠ 47) :
    SeqSP s (pre ++ [r.extract 0 i]) (r.extract (i + 1) r.size) ∧ ∃ rest, IsW 47 s (pre ++ [r.extract 0 i] ++ rest) := by
  have e1 : (r.extract 0 i).data.toList = r.data.toList.take i := by rw [extract_list, List.drop_zero]
  have e2 : (r.extract (i + 1) r.size).data.toList = r.data.toList.drop (i + 1) := by rw [extract_list, List.take_of_length_le (by rw [bsz]; exact Nat.le_refl _)]
  have h1 : SeqSP s (pre ++ [r.extract 0 i]) (r.extract (i + 1) r.size) := by
    refine ⟨?_, ?_⟩
    · rw [flatC_snoc, e1, e2, ← h.eq]
      conv => rhs; rw [he]
      simp
    · intro d hd
      rcases List.mem_append.1 hd with hd | hd
      · exact h.no d hd
      · rw [List.mem_singleton.1 hd]; intro b hb; rw [e1] at hb; exact hn b hb
  exact ⟨h1, piecesOf 47 (r.extract (i + 1) r.size), isW_flat h1.eq h1.no (isW_pieces _ _)⟩
set_option maxRecDepth 100000 in
set_option maxHeartbeats 2000000 in
theorem split_seqP (n B : Nat) (hn : 1 ≤ n) (s : ByteArray) (w : World) (hs : s.size ≤ 100000) (b1 : Boxed w B 9 (.string s)) (b2 : Boxed w (B + 1) 9 (.string ⟨#[47]⟩)) (b3 : Boxed w (B + 2) 3 (.int .i64 0)) :
    SeqC Fence.wide n Tryz.prog 145 #[.pointer (some ⟨B + 1, 0, none⟩), .pointer (some ⟨B, 0, none⟩), .pointer (some ⟨B + 2, 0, none⟩)] (fun x : ByteArray => Value.string x) (fun x => x.size ≤ 100000) B (B + 3)
      (fun xs => IsW 47 s xs) (fun pre => ∃ rest, IsW 47 s (pre ++ rest)) (s.size + 1) w := by
  intro l J Jx W hW hJ hJx hY h0
  have c1 := Boxed.below b1 hW b1.lt
  have c2 := Boxed.below b2 hW b2.lt
  have c3 := Boxed.below b3 hW b3.lt
  clear b1 b2 b3 hW
  refine callsIn_of_wp Tryz.func145 rfl trivial ?_ rfl
  simp only [Tryz.ntmps145, List.size_toArray, List.length_cons, List.length_nil, Nat.reduceAdd, Nat.reduceSub, Array.replicate_succ, Array.replicate_zero, List.push_toArray, List.append_toArray, List.nil_append, List.cons_append]
  have d2 := c2.cell
  gi_wp2
  gi_loopw [7] (fun _ wr => ∃ (pre : List ByteArray) (r : ByteArray), Boxed wr B 9 (.string r) ∧ Boxed wr (B + 1) 9 (.string ⟨#[47]⟩) ∧ Boxed wr (B + 2) 3 (.int .i64 0) ∧ Hid (SeqSP s pre r) ∧ J pre wr) (fun _ wr => leftS B wr)
  case atStart => exact ⟨[], s, c1, c2, c3, Lib.hid (SeqSP.start s), h0⟩
  case round =>
    obtain ⟨pre, r, e1, e2, e3, hst, hj⟩ := hrel
    clear c1 c2 c3 d2 h0
    have e1' := Lib.hid (leftS_eq e1)
    have f1 := e1.cell
    have f2 := e2.cell
    have f3 := e3.cell
    have f4 := e1.frozen
    obtain ⟨hb1, hb2⟩ := hst.out.bounds
    have hrs : r.size ≤ 100000 := by omega
    rcases ib_spec 47 r.data.toList with ⟨h1, h2⟩ | ⟨i, h1, h2, h3, h4⟩
    · have HI := Lib.hid h1
      have HL := Lib.hid (hst.out.last h2)
      obtain ⟨fn, tmps, assign, body, hy, hR⟩ := hY pre r wr hrs hj (by omega)
      clear h1 h2
      gi_wp2_with (refine ⟨trivial, ?_⟩; gi_at_call 112; refine (callsIn_wide.2 (vidx r 47 _)).mono ?_; rintro e w' ⟨rfl, rfl⟩; rw [HI.out])
      refine hR.mono ?_
      rintro e W3 (⟨rfl, hJ3, hk3⟩ | ⟨rfl, hJx3⟩)
      · gi_wp2
        go_end0
        exact ⟨⟨_, rfl⟩, .inl ⟨_, HL.out, hJ3⟩⟩
      · gi_wp2
        go_end0
        exact ⟨⟨_, rfl⟩, .inr ⟨_, ⟨[], by rw [List.append_nil]; exact HL.out⟩, hJx3⟩⟩
    · have HI := Lib.hid h1
      rw [bsz] at h2
      have HL := Lib.hid (hst.out.next h2 h3 h4)
      have c1 : (0 : Int) ≤ (i : Int) := by omega
      have c2 : (i : Int) ≤ (r.size : Int) := by omega
      have c3 : (0 : Int) ≤ (i : Int) + 1 := by omega
      have c4 : (i : Int) + 1 ≤ (r.size : Int) := by omega
      obtain ⟨fn, tmps, assign, body, hy, hR⟩ := hY pre (r.extract 0 i) wr (by simp; omega) hj (by omega)
      clear h1 h3 h4
      gi_wp2_with (refine ⟨trivial, ?_⟩; gi_at_call 112; refine (callsIn_wide.2 (vidx r 47 _)).mono ?_; rintro e w' ⟨rfl, rfl⟩; rw [HI.out])
      refine hR.mono ?_
      rintro e W3 (⟨rfl, hJ3, hk3⟩ | ⟨rfl, hJx3⟩)
      · have g1 := Boxed.held e1 hk3 (Nat.le_refl _) (by omega)
        have g2 := Boxed.held e2 hk3 (by omega) (by omega)
        have g3 := Boxed.held e3 hk3 (by omega) (by omega)
        clear e1 e2 e3 f1 f2 f3 f4 hy hR hj hk3
        have f1 := g1.cell
        have f2 := g2.cell
        have f4 := g1.frozen
        gi_wp2
        go_roundw
        case rel => exact ⟨pre ++ [r.extract 0 i], r.extract (i + 1) r.size, g1.set _, Boxed.aside g2 _ (by omega), Boxed.aside g3 _ (by omega), Lib.hid HL.out.1, hJ _ _ _ hJ3 (mid_set _ (Nat.le_refl _) (by omega))⟩
        case measure => rw [leftS_eq (g1.set _), e1'.out]; simp; omega
      · gi_wp2
        refine bodyPost_ret (results_none rfl _ _ _) rfl ?_
        exact ⟨⟨_, rfl⟩, .inr ⟨_, HL.out.2, hJx3⟩⟩
end Go.Proofs.YtbbihfafkpniiaaGreatDoor
/- number and small, strings.Cut at one byte, span: their contracts. -/
namespace Go.Proofs.YtbbihfafkpniiaaGreatDoor
open Go.RowKit
theorem shapeN_short {s : ByteArray} (h : s.size < 1) : num4 s = none := by
  unfold num4 shapeN
  rw [bsz]
  have : decide (1 ≤ s.size) = false := decide_eq_false (by omega)
  rw [this]; simp
theorem shapeN_long {s : ByteArray} (h : 4 < s.size) : num4 s = none := by
  unfold num4 shapeN
  rw [bsz]
  have : decide (s.size ≤ 4) = false := decide_eq_false (by omega)
  rw [this]; simp
theorem head_at (s : ByteArray) (h : 0 < s.size) : s.data.toList.head? = some s[0] := by
  rw [List.head?_eq_getElem?, List.getElem?_eq_getElem (by rw [bsz]; exact h)]; rfl
theorem shapeN_zero {s : ByteArray} (h : 1 < s.size) (h0 : s[0].toNat = 48) : num4 s = none := by
  unfold num4 shapeN
  rw [bsz, head_at s (by omega)]
  have e : s[0] = 48 := UInt8.toNat_inj.1 h0
  rw [e]
  simp [h]
theorem shapeN_ok {s : ByteArray} (h1 : 1 ≤ s.size) (h2 : s.size ≤ 4) (h3 : ¬ (s[0].toNat = 48 ∧ 1 < s.size)) : shapeN s.data.toList = true := by
  unfold shapeN
  rw [bsz, head_at s (by omega)]
  simp only [Bool.and_eq_true, decide_eq_true_eq, Bool.not_eq_true']
  refine ⟨⟨h1, h2⟩, ?_⟩
  by_cases h : 1 < s.size
  · have : s[0] ≠ 48 := fun e => h3 ⟨by rw [e]; rfl, h⟩
    simp [this]
  · simp [h]
theorem num4_all {s : ByteArray} (h1 : shapeN s.data.toList = true) (h2 : s.data.toList.all digC = true) : num4 s = some (valN s.data.toList) := by
  unfold num4; rw [h1, h2]; rfl
theorem num4_bad {s : ByteArray} (k : Nat) (h : k < s.size) (hc : digC s[k] = false) : num4 s = none :=
  num4_no s s[k] (Array.mem_toList_iff.2 (Array.getElem_mem (xs := s.data) h)) hc
theorem take_dig (s : ByteArray) (k : Nat) (h : k < s.size) (hp : (s.data.toList.take k).all digC = true) (hc : digC s[k] = true) :
    (s.data.toList.take (k + 1)).all digC = true ∧ valN (s.data.toList.take (k + 1)) = 10 * valN (s.data.toList.take k) + (s[k].toNat - 48) := by
  rw [take_snoc s k h, List.all_append, hp, valN_snoc]
  simp [hc]
theorem take_le (s : ByteArray) (k : Nat) (hp : (s.data.toList.take k).all digC = true) (h : s.size ≤ 4) : valN (s.data.toList.take k) ≤ 9999 :=
  valN_le _ hp (by rw [List.length_take, bsz]; omega)
def numV (o : Option Nat) : Value := .tuple #[.int .i64 ((o.getD 0 : Nat) : Int), .bool o.isSome]
def smallV (o : Option Nat) : Int := match o with | some n => (n : Int) | none => -1
theorem digC_inv {c : UInt8} (h : digC c = true) : 48 ≤ (c.toNat : Int) ∧ (c.toNat : Int) ≤ 57 := by unfold digC at h; simp at h; omega
theorem digC_not {c : UInt8} (h : digC c = false) : (c.toNat : Int) < 48 ∨ 57 < (c.toNat : Int) := by unfold digC at h; simp at h; omega
theorem dig_sub {c : UInt8} (h : 48 ≤ (c.toNat : Int)) (v : Nat) : ((10 * v + (c.toNat - 48) : Nat) : Int) = 10 * (v : Int) + ((c.toNat : Int) - 48) := by omega
theorem dig_sub2 {c : UInt8} (h : 48 ≤ (c.toNat : Int)) (v : Nat) : ((10 * v + (c.toNat - 48) : Nat) : Int) = (v : Int) * 10 + ((c.toNat : Int) - 48) := by omega
set_option maxRecDepth 100000 in
set_option maxHeartbeats 1000000 in
theorem vnum4 (s : ByteArray) (w : World) (hs : s.size ≤ 100000) :
    Calls Tryz.prog 135 #[.string s] w fun e w' => e = .returned (numV (num4 s)) ∧ w = w' := by
  go_enter Tryz.func135, Tryz.ntmps135
  by_cases h1 : s.size < 1
  · have H := Lib.hid (shapeN_short h1)
    go_wp2
    go_ret2
    exact ⟨by rw [H.out]; rfl, rfl⟩
  by_cases h2 : 4 < s.size
  · have H := Lib.hid (shapeN_long h2)
    go_wp2
    go_ret2
    exact ⟨by rw [H.out]; rfl, rfl⟩
  have h0 : 0 < s.size := by omega
  by_cases h3 : s[0].toNat = 48 ∧ 1 < s.size
  · have H := Lib.hid (shapeN_zero h3.2 h3.1)
    have t1 : ((s[0].toNat : Int) == 48) = true := by rw [h3.1]; rfl
    have h4 := h3.2
    clear h3
    go_wp2
    go_ret2
    exact ⟨by rw [H.out]; rfl, rfl⟩
  have HS := Lib.hid (shapeN_ok (by omega) (by omega) h3)
  have ht : ((s[0].toNat : Int) == 48) = false ∨ (((s[0].toNat : Int) == 48) = true ∧ s.size = 1) := by
    by_cases e : s[0].toNat = 48
    · exact .inr ⟨by rw [e]; rfl, by omega⟩
    · exact .inl (by simp; omega)
  clear h3
  rcases ht with ht | ⟨ht, hone⟩
  all_goals
    go_wp2
    go_loop [4, 26] (fun n i => ∃ k : Nat, k ≤ s.size ∧ i = .int .i64 k ∧ n = .int .i64 (valN (s.data.toList.take k) : Int) ∧ Hid ((s.data.toList.take k).all digC = true)) (fun _ i => s.size - (intOf i).toNat)
    case atStart => exact ⟨0, Nat.zero_le _, rfl, rfl, rfl⟩
    case round =>
      obtain ⟨k, hk, rfl, rfl, hd⟩ := hrel
      have hv := take_le s k hd.out (by omega)
      by_cases hlt : k < s.size
      · by_cases hc : digC s[k] = true
        · have H := Lib.hid (take_dig s k hlt hd.out hc)
          obtain ⟨c1, c2⟩ := digC_inv hc
          have HD := Lib.hid (dig_sub c1)
          clear hc
          generalize valN (s.data.toList.take k) = v at *
          go_wp2
          go_round
          case rel => exact ⟨k + 1, by omega, by go_num, by rw [H.out.2, HD.out], H.out.1⟩
          case measure => simp [intOf]; omega
        · have H := Lib.hid (num4_bad k hlt (by simpa using hc))
          have hn := digC_not (by simpa using hc)
          clear hc
          rcases hn with hn | hn
          all_goals
            go_wp2
            go_ret2
            exact ⟨by rw [H.out]; rfl, rfl⟩
      · obtain rfl : k = s.size := by omega
        rw [take_all s _ (Nat.le_refl _)] at *
        have H := Lib.hid (num4_all HS.out hd.out)
        go_wp2
        go_ret2
        exact ⟨by rw [H.out]; rfl, rfl⟩
set_option maxRecDepth 100000 in
set_option maxHeartbeats 1000000 in
theorem rsmall (s : ByteArray) (w : World) (hs : s.size ≤ 100000) :
    Calls Tryz.prog 118 #[.string s] w fun e w' => e = .returned (.int .i64 (smallV (num4 s))) ∧ w = w' := by
  go_enter Tryz.func118, Tryz.ntmps118
  by_cases h1 : s.size < 1
  · have H := Lib.hid (shapeN_short h1)
    go_wp2
    go_ret
    exact ⟨by rw [H.out]; rfl, rfl⟩
  by_cases h2 : 4 < s.size
  · have H := Lib.hid (shapeN_long h2)
    go_wp2
    go_ret
    exact ⟨by rw [H.out]; rfl, rfl⟩
  have h0 : 0 < s.size := by omega
  by_cases h3 : s[0].toNat = 48 ∧ 1 < s.size
  · have H := Lib.hid (shapeN_zero h3.2 h3.1)
    have t1 : ((s[0].toNat : Int) == 48) = true := by rw [h3.1]; rfl
    have h4 := h3.2
    clear h3
    go_wp2
    go_ret
    exact ⟨by rw [H.out]; rfl, rfl⟩
  have HS := Lib.hid (shapeN_ok (by omega) (by omega) h3)
  have ht : ((s[0].toNat : Int) == 48) = false ∨ (((s[0].toNat : Int) == 48) = true ∧ s.size = 1) := by
    by_cases e : s[0].toNat = 48
    · exact .inr ⟨by rw [e]; rfl, by omega⟩
    · exact .inl (by simp; omega)
  clear h3
  rcases ht with ht | ⟨ht, hone⟩
  all_goals
    go_wp2
    go_loop [3, 4] (fun n i => ∃ k : Nat, k ≤ s.size ∧ i = .int .i64 k ∧ n = .int .i64 (valN (s.data.toList.take k) : Int) ∧ Hid ((s.data.toList.take k).all digC = true)) (fun _ i => s.size - (intOf i).toNat)
    case atStart => exact ⟨0, Nat.zero_le _, rfl, rfl, rfl⟩
    case round =>
      obtain ⟨k, hk, rfl, rfl, hd⟩ := hrel
      have hv := take_le s k hd.out (by omega)
      by_cases hlt : k < s.size
      · by_cases hc : digC s[k] = true
        · have H := Lib.hid (take_dig s k hlt hd.out hc)
          obtain ⟨c1, c2⟩ := digC_inv hc
          have HD := Lib.hid (dig_sub2 c1)
          clear hc
          generalize valN (s.data.toList.take k) = v at *
          go_wp2
          go_round
          case rel => exact ⟨k + 1, by omega, by go_num, by rw [H.out.2, HD.out], H.out.1⟩
          case measure => simp [intOf]; omega
        · have H := Lib.hid (num4_bad k hlt (by simpa using hc))
          have hn := digC_not (by simpa using hc)
          clear hc
          rcases hn with hn | hn
          all_goals
            go_wp2
            go_ret
            exact ⟨by rw [H.out]; rfl, rfl⟩
      · obtain rfl : k = s.size := by omega
        rw [take_all s _ (Nat.le_refl _)] at *
        have H := Lib.hid (num4_all HS.out hd.out)
        go_wp2
        go_ret
        exact ⟨by rw [H.out]; rfl, rfl⟩
/-- strings.Cut at one byte. -/
def CutP (c : UInt8) (s : ByteArray) (w : World) (e : Ending) (w' : World) : Prop :=
  Below w.heap.size w w' ∧ ((NoC c s ∧ e = .returned (.tuple #[.string s, .string ⟨#[]⟩, .bool false])) ∨
    ∃ i : Nat, i < s.size ∧ s.data.toList = s.data.toList.take i ++ c :: s.data.toList.drop (i + 1) ∧ (∀ x ∈ s.data.toList.take i, x ≠ c) ∧ e = .returned (.tuple #[.string (s.extract 0 i), .string (s.extract (i + 1) s.size), .bool true]))
set_option maxRecDepth 100000 in
set_option maxHeartbeats 1000000 in
theorem lcut (s : ByteArray) (c : UInt8) (w : World) (hs : s.size ≤ 100000) : Calls Tryz.prog 115 #[.string s, .string ⟨#[c]⟩] w (CutP c s w) := by
  go_enter Tryz.func115, Tryz.ntmps115
  go_wp2_with fail
  refine (Tryz.stringslite_Index_one s c w).mono ?_
  rintro e w' ⟨rfl, rfl⟩
  rcases ib_spec c s.data.toList with ⟨h1, h2⟩ | ⟨i, h1, h2, h3, h4⟩
  · rw [h1]
    have H := Lib.hid h2
    clear h1 h2
    go_wp2_with fail
    go_ret3
    exact ⟨Below.refl _ _, .inl ⟨H.out, rfl⟩⟩
  · rw [h1]
    rw [bsz] at h2
    have H := Lib.hid (And.intro h3 h4)
    have c1 : (0 : Int) ≤ (i : Int) := by omega
    have c2 : (i : Int) ≤ (s.size : Int) := by omega
    have c3 : (0 : Int) ≤ (i : Int) + 1 := by omega
    have c4 : (i : Int) + 1 ≤ (s.size : Int) := by omega
    have c5 : IntKind.i64.wrap ((i : Int) + 1) = (i : Int) + 1 := IntWalk.i64_in _ (by omega)
    have c6 : ((i : Int) + 1).toNat = i + 1 := by omega
    clear h1 h3 h4
    go_wp2_with fail
    go_quiet (fail)
    clear c5 c6
    go_wp2_with fail
    go_ret3
    exact ⟨below_drewN (Below.refl _ _) _, .inr ⟨i, h2, H.out.1, H.out.2, rfl⟩⟩
set_option maxRecDepth 100000 in
set_option maxHeartbeats 1000000 in
theorem vcut1 (s : ByteArray) (c : UInt8) (w : World) (hs : s.size ≤ 100000) : Calls Tryz.prog 85 #[.string s, .string ⟨#[c]⟩] w (CutP c s w) := by
  go_enter Tryz.func85, Tryz.ntmps85
  go_wp2_with fail
  refine (lcut s c w hs).mono ?_
  rintro e w' ⟨hb, (⟨h, rfl⟩ | ⟨i, h1, h2, h3, rfl⟩)⟩
  · have H := Lib.hid h
    clear h
    go_wp2_with fail
    go_ret3
    exact ⟨hb, .inl ⟨H.out, rfl⟩⟩
  · have H := Lib.hid (And.intro h2 h3)
    clear h2 h3
    go_wp2_with fail
    go_ret3
    exact ⟨hb, .inr ⟨i, h1, H.out.1, H.out.2, rfl⟩⟩
theorem cut_lists {s : ByteArray} {c : UInt8} {i : Nat} (hi : i < s.size) (h : s.data.toList = s.data.toList.take i ++ c :: s.data.toList.drop (i + 1)) :
    s.data.toList = (s.extract 0 i).data.toList ++ c :: (s.extract (i + 1) s.size).data.toList := by
  have e : s.data.toList.take s.size = s.data.toList := List.take_of_length_le (by rw [bsz]; exact Nat.le_refl _)
  rw [extract_list, extract_list, List.drop_zero, e]
  exact h
theorem span_cut {s a b : ByteArray} (h : s.data.toList = a.data.toList ++ 45 :: b.data.toList) (ha : NoC 45 a) :
    spanS s = match num4 a, num4 b with
      | some x, some y => if x ≤ y then some (x, y) else none
      | _, _ => none := by
  have hp : piecesOf 45 s = a :: piecesOf 45 b := pieces_of (isW_cons h ha (isW_pieces 45 b))
  unfold spanS
  rw [hp]
  by_cases hb : (45 : UInt8) ∈ b.data.toList
  · have hn : num4 b = none := num4_no b 45 hb rfl
    rw [hn]
    have hw := isW_pieces 45 b
    cases hL : piecesOf 45 b with
    | nil => exact absurd hL hw.ne
    | cons y M =>
      cases M with
      | nil =>
        rw [hL] at hw
        have e : b = y := data_inj (by have := hw.eq; simpa [joinL, Lib.joinTail] using this)
        have := hw.no y (by simp) 45 (by rw [← e]; exact hb)
        exact absurd rfl this
      | cons z M => cases num4 a <;> rfl
  · rw [pieces_one (fun x hx e => hb (by rw [← e]; exact hx))]
    rfl
def SpanPost (s : ByteArray) (w : World) (e : Ending) (w' : World) : Prop :=
  Below w.heap.size w w' ∧ ((∃ a b : Int, e = .returned (.tuple #[.int .i64 a, .int .i64 b, .bool false]) ∧ spanS s = none) ∨ (∃ a b : Nat, e = .returned (.tuple #[.int .i64 (a : Int), .int .i64 (b : Int), .bool true]) ∧ spanS s = some (a, b) ∧ a ≤ b ∧ b ≤ 9999))
theorem span_ok {s : ByteArray} {a b : Nat} (h : spanS s = some (a, b)) : a ≤ b ∧ b ≤ 9999 := spanL_le h
attribute [local irreducible] num4
set_option maxRecDepth 100000 in
set_option maxHeartbeats 1000000 in
theorem vspan (s : ByteArray) (w : World) (hs : s.size ≤ 100000) : Calls Tryz.prog 116 #[.string s] w (SpanPost s w) := by
  go_enter Tryz.func116, Tryz.ntmps116
  go_wp2_with fail
  refine (vcut1 s 45 w hs).mono ?_
  rintro e w1 ⟨hb, (⟨h, rfl⟩ | ⟨i, h1, h2, h3, rfl⟩)⟩
  · have HP := Lib.hid (show spanS s = (num4 s).map (fun n => (n, n)) by unfold spanS; rw [pieces_one h]; rfl)
    clear h
    go_wp2_with fail
    refine (vnum4 s w1 hs).mono ?_
    rintro e w' ⟨rfl, rfl⟩
    cases hn : num4 s with
    | none =>
      rw [hn] at HP
      clear hn
      unfold numV
      go_wp2_with fail
      go_ret3
      exact ⟨hb, .inl ⟨_, _, rfl, HP.out⟩⟩
    | some n =>
      have HN := Lib.hid hn
      rw [hn] at HP
      clear hn
      unfold numV
      go_wp2_with fail
      refine (vnum4 s w1 hs).mono ?_
      rintro e w' ⟨rfl, rfl⟩
      rw [HN.out]
      unfold numV
      go_wp2_with fail
      go_ret3
      exact ⟨hb, .inr ⟨n, n, rfl, HP.out, span_ok HP.out⟩⟩
  · have hc := cut_lists h1 h2
    have hz1 : (s.extract 0 i).size ≤ 100000 := by simp; omega
    have hz2 : (s.extract (i + 1) s.size).size ≤ 100000 := by simp; omega
    have ha : NoC 45 (s.extract 0 i) := by intro b hb; rw [extract_list, List.drop_zero] at hb; exact h3 b hb
    have HP := Lib.hid (span_cut hc ha)
    clear hc ha h2 h3
    generalize s.extract 0 i = a at *
    generalize s.extract (i + 1) s.size = b at *
    go_wp2_with fail
    refine (vnum4 a w1 hz1).mono ?_
    rintro e w' ⟨rfl, rfl⟩
    cases hn : num4 a with
    | none =>
      rw [hn] at HP
      clear hn
      unfold numV
      go_wp2_with fail
      go_ret3
      exact ⟨hb, .inl ⟨_, _, rfl, HP.out⟩⟩
    | some x =>
      rw [hn] at HP
      clear hn
      unfold numV
      go_wp2_with fail
      refine (vnum4 b w1 hz2).mono ?_
      rintro e w' ⟨rfl, rfl⟩
      cases hm : num4 b with
      | none =>
        rw [hm] at HP
        clear hm
        unfold numV
        go_wp2_with fail
        go_ret3
        exact ⟨hb, .inl ⟨_, _, rfl, HP.out⟩⟩
      | some y =>
        rw [hm] at HP
        clear hm
        unfold numV
        by_cases hle : x ≤ y
        · have HQ := Lib.hid (HP.out.trans (if_pos hle))
          clear HP
          go_wp2_with fail
          go_ret3
          exact ⟨hb, .inr ⟨x, y, rfl, HQ.out, span_ok HQ.out⟩⟩
        · have HQ := Lib.hid (HP.out.trans (if_neg hle))
          clear HP
          go_wp2_with fail
          go_ret3
          exact ⟨hb, .inl ⟨_, _, rfl, HQ.out⟩⟩
end Go.Proofs.YtbbihfafkpniiaaGreatDoor

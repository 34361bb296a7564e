/- strings.SplitSeq at a comma: what its iterator yields. -/
import Derived.Test.YtllomoplpoeggaaDoorRangeC
import Derived.Test.YtllomoplpoeggaaDoorMaskRead
import Derived.Test.YtllomoplpoeggaaDoorShelf
import Derived.RangeFuncBox
import Derived.Shelf.Abstract
import Derived.Shelf.RegionOpen
import Derived.WalkKit
import Derived.OwnWalkIn
import Derived.TacticsInMore
import Derived.LoopNIn
import Derived.LoopIn
import Derived.Lib.Hide
import Derived.Outline
namespace Go.Proofs.YtllomoplpoeggaaDoor
open Go.RowKit Go.Shelf
attribute [local go_sem] Oper.semAt_some
def leftS (B : Nat) (W : World) : Nat := match W.cell? ⟨B, 0, none⟩ with
  | some (.string r) => r.size
  | _ => 0
theorem leftS_eq {B : Nat} {W : World} {t : TypeId} {r : ByteArray} (h : Boxed W B t (.string r)) : leftS B W = r.size := by unfold leftS; rw [h.cell]
theorem Boxed.below {A W : World} {n B : Nat} {t : TypeId} {v : Value} (h : Boxed A B t v) (hb : Below n A W) (hn : B < n) : Boxed W B t v := (hb.block B hn).trans h
theorem Boxed.held {A W : World} {lo hi B : Nat} {t : TypeId} {v : Value} (h : Boxed A B t v) (hb : Held lo hi A W) (h1 : lo ≤ B) (h2 : B < hi) : Boxed W B t v := (hb B h1 h2).trans h
theorem Boxed.aside {W : World} {B C : Nat} {t : TypeId} {v : Value} (h : Boxed W B t v) (v' : Value) (hne : B ≠ C) : Boxed (W.setCell ⟨C, 0, none⟩ v') B t v := (Below.heap_setCell W ⟨C, 0, none⟩ v' B hne).trans h
theorem mid_set {W : World} {lo hi B : Nat} (v : Value) (h1 : lo ≤ B) (h2 : B < hi) : Mid lo hi W (W.setCell ⟨B, 0, none⟩ v) :=
  ⟨(Below.refl lo W).setCell (p := ⟨B, 0, none⟩) h1 v, fun b hb _ => Below.heap_setCell W ⟨B, 0, none⟩ v b (by show b ≠ B; omega)⟩
theorem flat_count (c : UInt8) : ∀ D : List ByteArray, D.length ≤ (flatC c D).length
  | [] => by simp
  | d :: D => by
    have : flatC c (d :: D) = d.data.toList ++ c :: flatC c D := by simp [flatC]
    have ih := flat_count c D
    rw [this]; simp; omega
structure SeqSt (s : ByteArray) (pre : List ByteArray) (r : ByteArray) : Prop where
  eq : flatC 44 pre ++ r.data.toList = s.data.toList
  no : ∀ d ∈ pre, NoC 44 d
theorem SeqSt.start (s : ByteArray) : SeqSt s [] s := ⟨by simp [flatC], by simp⟩
theorem SeqSt.bounds {s r : ByteArray} {pre : List ByteArray} (h : SeqSt s pre r) : pre.length < s.size + 1 ∧ r.size ≤ s.size := by
  have h1 := flat_count 44 pre
  have h2 := congrArg List.length h.eq
  rw [List.length_append, bsz, bsz] at h2
  omega
theorem SeqSt.last {s r : ByteArray} {pre : List ByteArray} (h : SeqSt s pre r) (hn : ∀ x ∈ r.data.toList, x ≠ 44) : IsW 44 s (pre ++ [r]) :=
  isW_flat h.eq h.no ⟨by simp, fun x hx => by rw [List.mem_singleton.1 hx]; exact hn, by simp [joinL, Lib.joinTail]⟩
theorem SeqSt.next {s r : ByteArray} {pre : List ByteArray} (h : SeqSt s pre r) {i : Nat} (hi : i < r.size) (he : r.data.toList = r.data.toList.take i ++ 44 :: r.data.toList.drop (i + 1)) (hn : ∀ x ∈ r.data.toList.take i, x ≠ 44) :
    SeqSt s (pre ++ [r.extract 0 i]) (r.extract (i + 1) r.size) ∧ ∃ rest, IsW 44 s (pre ++ [r.extract 0 i] ++ rest) := by
  have e1 : (r.extract 0 i).data.toList = r.data.toList.take i := by rw [extract_list, List.drop_zero]
  have e2 : (r.extract (i + 1) r.size).data.toList = r.data.toList.drop (i + 1) := by rw [extract_list, List.take_of_length_le (by rw [bsz]; exact Nat.le_refl _)]
  have h1 : SeqSt s (pre ++ [r.extract 0 i]) (r.extract (i + 1) r.size) := by
    refine ⟨?_, ?_⟩
    · rw [flatC_snoc, e1, e2, ← h.eq]
      conv => rhs; rw [he]
      simp
    · intro d hd
      rcases List.mem_append.1 hd with hd | hd
      · exact h.no d hd
      · rw [List.mem_singleton.1 hd]; intro b hb; rw [e1] at hb; exact hn b hb
  exact ⟨h1, piecesOf 44 (r.extract (i + 1) r.size), isW_flat h1.eq h1.no (isW_pieces _ _)⟩
theorem vidx (s : ByteArray) (c : UInt8) (w : World) : Calls Tryd.prog 50 #[.string s, .string ⟨#[c]⟩] w fun e w' => e = .returned (.int .i64 (Lib.indexByte s.data.toList c)) ∧ w = w' :=
  (Tryd.strings_Index_one s c w).mono fun _ _ h => ⟨h.1, h.2.symm⟩
set_option maxRecDepth 100000 in
set_option maxHeartbeats 2000000 in
theorem split_seq (n B : Nat) (hn : 1 ≤ n) (s : ByteArray) (w : World) (hs : s.size ≤ 100000) (b1 : Boxed w B 9 (.string s)) (b2 : Boxed w (B + 1) 9 (.string ⟨#[44]⟩)) (b3 : Boxed w (B + 2) 3 (.int .i64 0)) :
    SeqC Fence.wide n Tryd.prog 48 #[.pointer (some ⟨B + 1, 0, none⟩), .pointer (some ⟨B, 0, none⟩), .pointer (some ⟨B + 2, 0, none⟩)] (fun x : ByteArray => Value.string x) (fun x => x.size ≤ 100000) B (B + 3)
      (fun xs => IsW 44 s xs) (fun pre => ∃ rest, IsW 44 s (pre ++ rest)) (s.size + 1) w := by
  intro l J Jx W hW hJ hJx hY h0
  have c1 := Boxed.below b1 hW b1.lt
  have c2 := Boxed.below b2 hW b2.lt
  have c3 := Boxed.below b3 hW b3.lt
  clear b1 b2 b3 hW
  refine callsIn_of_wp Tryd.func48 rfl trivial ?_ rfl
  simp only [Tryd.ntmps48, List.size_toArray, List.length_cons, List.length_nil, Nat.reduceAdd, Nat.reduceSub, Array.replicate_succ, Array.replicate_zero, List.push_toArray, List.append_toArray, List.nil_append, List.cons_append]
  have d2 := c2.cell
  gi_wp2
  gi_loopw [7] (fun _ wr => ∃ (pre : List ByteArray) (r : ByteArray), Boxed wr B 9 (.string r) ∧ Boxed wr (B + 1) 9 (.string ⟨#[44]⟩) ∧ Boxed wr (B + 2) 3 (.int .i64 0) ∧ Hid (SeqSt s pre r) ∧ J pre wr) (fun _ wr => leftS B wr)
  case atStart => exact ⟨[], s, c1, c2, c3, Lib.hid (SeqSt.start s), h0⟩
  case round =>
    obtain ⟨pre, r, e1, e2, e3, hst, hj⟩ := hrel
    clear c1 c2 c3 d2 h0
    have e1' := Lib.hid (leftS_eq e1)
    have f1 := e1.cell
    have f2 := e2.cell
    have f3 := e3.cell
    have f4 := e1.frozen
    obtain ⟨hb1, hb2⟩ := hst.out.bounds
    have hrs : r.size ≤ 100000 := by omega
    rcases ib_spec 44 r.data.toList with ⟨h1, h2⟩ | ⟨i, h1, h2, h3, h4⟩
    · have HI := Lib.hid h1
      have HL := Lib.hid (hst.out.last h2)
      obtain ⟨fn, tmps, assign, body, hy, hR⟩ := hY pre r wr hrs hj (by omega)
      clear h1 h2
      gi_wp2_with (refine ⟨trivial, ?_⟩; gi_at_call 50; refine (callsIn_wide.2 (vidx r 44 _)).mono ?_; rintro e w' ⟨rfl, rfl⟩; rw [HI.out])
      refine hR.mono ?_
      rintro e W3 (⟨rfl, hJ3, hk3⟩ | ⟨rfl, hJx3⟩)
      · gi_wp2
        go_end0
        exact ⟨⟨_, rfl⟩, .inl ⟨_, HL.out, hJ3⟩⟩
      · gi_wp2
        go_end0
        exact ⟨⟨_, rfl⟩, .inr ⟨_, ⟨[], by rw [List.append_nil]; exact HL.out⟩, hJx3⟩⟩
    · have HI := Lib.hid h1
      rw [bsz] at h2
      have HL := Lib.hid (hst.out.next h2 h3 h4)
      have c1 : (0 : Int) ≤ (i : Int) := by omega
      have c2 : (i : Int) ≤ (r.size : Int) := by omega
      have c3 : (0 : Int) ≤ (i : Int) + 1 := by omega
      have c4 : (i : Int) + 1 ≤ (r.size : Int) := by omega
      obtain ⟨fn, tmps, assign, body, hy, hR⟩ := hY pre (r.extract 0 i) wr (by simp; omega) hj (by omega)
      clear h1 h3 h4
      gi_wp2_with (refine ⟨trivial, ?_⟩; gi_at_call 50; refine (callsIn_wide.2 (vidx r 44 _)).mono ?_; rintro e w' ⟨rfl, rfl⟩; rw [HI.out])
      refine hR.mono ?_
      rintro e W3 (⟨rfl, hJ3, hk3⟩ | ⟨rfl, hJx3⟩)
      · have g1 := Boxed.held e1 hk3 (Nat.le_refl _) (by omega)
        have g2 := Boxed.held e2 hk3 (by omega) (by omega)
        have g3 := Boxed.held e3 hk3 (by omega) (by omega)
        clear e1 e2 e3 f1 f2 f3 f4 hy hR hj hk3
        have f1 := g1.cell
        have f2 := g2.cell
        have f4 := g1.frozen
        gi_wp2
        go_roundw
        case rel => exact ⟨pre ++ [r.extract 0 i], r.extract (i + 1) r.size, g1.set _, Boxed.aside g2 _ (by omega), Boxed.aside g3 _ (by omega), Lib.hid HL.out.1, hJ _ _ _ hJ3 (mid_set _ (Nat.le_refl _) (by omega))⟩
        case measure => rw [leftS_eq (g1.set _), e1'.out]; simp; omega
      · gi_wp2
        refine bodyPost_ret (results_none rfl _ _ _) rfl ?_
        exact ⟨⟨_, rfl⟩, .inr ⟨_, HL.out.2, hJx3⟩⟩
end Go.Proofs.YtllomoplpoeggaaDoor

/- Texts of one proof, laid together. -/
import Derived.Test.YtollifnnpihfdaaGreatDoorC17
import Derived.RegionTactic
import Derived.RangeFuncNested
import Derived.RangeFuncBound
import Derived.RangeFuncCalls
import Derived.RangeFuncLeaves
import Derived.RangeFuncFrom
import Derived.Test.YtollifnnpihfdaaGreatDoorC10
import Derived.Test.YtollifnnpihfdaaGreatDoorC06
import Derived.RangeFuncBox
import Derived.Shelf.Abstract
import Derived.Shelf.RegionOpen
import Derived.WalkKit
import Derived.OwnWalkIn
import Derived.TacticsInMore
import Derived.LoopNIn
import Derived.LoopIn
import Derived.Lib.Hide
import Derived.Outline
/- Split and Clean of the reference of layer 4. -/
namespace Go.Proofs.YtollifnnpihfdaaGreatDoor
open Go.RowKit
theorem filt_snoc (D : List ByteArray) (x : ByteArray) : (D ++ [x]).filter fullB = D.filter fullB ++ (if x.size = 0 then [] else [x]) := by
  rw [List.filter_append]
  congr 1
  by_cases h : x.size = 0
  · simp [fullB, h]
  · simp [fullB, h]
theorem filt_keep {D : List ByteArray} {x : ByteArray} (h : x.size ≠ 0) : (D ++ [x]).filter fullB = D.filter fullB ++ [x] := by rw [filt_snoc, if_neg h]
theorem filt_drop {D : List ByteArray} {x : ByteArray} (h : x.size = 0) : (D ++ [x]).filter fullB = D.filter fullB := by rw [filt_snoc, if_pos h, List.append_nil]
def SplitP (s : ByteArray) (w : World) (e : Ending) (w' : World) : Prop := ∃ (v : Value) (L : List ByteArray) (a b : Bool), e = .returned (.tuple #[v, .bool a, .bool b]) ∧ IsW 47 s L ∧ OwnS w' w.heap.size v (L.filter fullB) ∧ Below w.heap.size w w'
theorem filt_len (D : List ByteArray) : (D.filter fullB).length ≤ D.length := List.length_filter_le _ _
set_option maxRecDepth 100000 in
set_option maxHeartbeats 4000000 in
theorem rpsplit (s : ByteArray) (w : World) (hs : s.size ≤ 100000) : Calls Tryz.prog 192 #[.string s] w (SplitP s w) := by
  go_enter Tryz.func192, Tryz.ntmps192
  go_wp2_with fail
  go_loopw [5, 6, 7] (fun v m i wr => ∃ (D : List ByteArray) (mk ik : Nat), m = .int .i64 (mk : Int) ∧ i = .int .i64 (ik : Int) ∧ OwnS wr w.heap.size v (D.filter fullB) ∧ Below w.heap.size w wr ∧ Hid ((ik ≤ s.size ∧ CutSt 47 s D mk ik) ∨ (ik = s.size + 1 ∧ IsW 47 s D)) ∧ D.length ≤ 100001 ∧ mk ≤ s.size + 1) (fun _ _ i _ => s.size + 2 - (intOf i).toNat)
  case atStart => exact ⟨[], 0, 0, rfl, rfl, OwnS.nil _ _, Below.refl _ _, Lib.hid (.inl ⟨Nat.zero_le _, CutSt.start 47 s⟩), by simp, by omega⟩
  case round =>
    obtain ⟨D, mk, ik, rfl, rfl, hown, hb, hst, hD, hm⟩ := hrel
    have hfl := filt_len D
    by_cases hle : ik ≤ s.size
    · have hc : CutSt 47 s D mk ik := by
        rcases hst.out with ⟨_, h⟩ | ⟨h, _⟩
        · exact h
        · omega
      have h1 := hc.le
      have h3 := hc.count
      have HST := Lib.hid hc
      clear hst hc
      by_cases hlt : ik < s.size
      · have n1 : ((ik : Int) == (s.size : Int)) = false := by rw [beq_eq_false_iff_ne]; omega
        by_cases hcc : s[ik] = 47
        · have t1 : ((s[ik].toNat : Int) == 47) = true := by rw [hcc]; rfl
          have HC := Lib.hid (HST.out.cut hlt hcc)
          clear hcc
          by_cases hem : mk < ik
          · have HF := Lib.hid (filt_keep (D := D) (x := s.extract mk ik) (by rw [ByteArray.size_extract]; omega))
            go_wp2_with (at_builtin; refine wpList_append_strs rfl (.tmp 27) (.tmp 32) rfl w.heap.size _ (D.filter fullB) rfl (hown.alloc _) (wr.heap.size + 1) (some ⟨wr.heap.size, 0, none⟩) 1 1 [s.extract mk ik] rfl rfl (one_new wr _ 9) (by simp; omega) (by have := hb.size; simp; omega) ?_; intro v4 w4 own4 hg4 hat4)
            have hb4 := OwnS.grownBelow (hown.alloc _) hb rfl hg4 own4
            clear hg4 hat4 hb hown
            go_wp2_with fail
            go_roundw
            case rel => exact ⟨D ++ [s.extract mk ik], ik + 1, ik + 1, by go_num, by go_num, by rw [HF.out]; exact own4, hb4, Lib.hid (.inl ⟨by omega, HC.out⟩), by rw [List.length_append, List.length_singleton]; omega, by omega⟩
            case measure => simp [intOf]; omega
          · have HF := Lib.hid (filt_drop (D := D) (x := s.extract mk ik) (by rw [ByteArray.size_extract]; omega))
            go_wp2_with fail
            go_roundw
            case rel => exact ⟨D ++ [s.extract mk ik], ik + 1, ik + 1, by go_num, by go_num, by rw [HF.out]; exact hown, hb, Lib.hid (.inl ⟨by omega, HC.out⟩), by rw [List.length_append, List.length_singleton]; omega, by omega⟩
            case measure => simp [intOf]; omega
        · have t1 : ((s[ik].toNat : Int) == 47) = false := by
            rw [beq_eq_false_iff_ne]
            intro e
            exact hcc (UInt8.toNat_inj.1 (by show s[ik].toNat = 47; omega))
          have HC := Lib.hid (HST.out.next hlt hcc)
          clear hcc
          go_wp2_with fail
          go_roundw
          case rel => exact ⟨D, mk, ik + 1, rfl, by go_num, hown, hb, Lib.hid (.inl ⟨by omega, HC.out⟩), hD, hm⟩
          case measure => simp [intOf]; omega
      · obtain rfl : ik = s.size := by omega
        have n1 : ((s.size : Int) == (s.size : Int)) = true := by simp
        have HC := Lib.hid HST.out.done
        by_cases hem : mk < s.size
        · have HF := Lib.hid (filt_keep (D := D) (x := s.extract mk s.size) (by rw [ByteArray.size_extract]; omega))
          go_wp2_with (at_builtin; refine wpList_append_strs rfl (.tmp 27) (.tmp 32) rfl w.heap.size _ (D.filter fullB) rfl (hown.alloc _) (wr.heap.size + 1) (some ⟨wr.heap.size, 0, none⟩) 1 1 [s.extract mk s.size] rfl rfl (one_new wr _ 9) (by simp; omega) (by have := hb.size; simp; omega) ?_; intro v4 w4 own4 hg4 hat4)
          have hb4 := OwnS.grownBelow (hown.alloc _) hb rfl hg4 own4
          clear hg4 hat4 hb hown
          go_wp2_with fail
          go_roundw
          case rel => exact ⟨D ++ [s.extract mk s.size], s.size + 1, s.size + 1, by go_num, by go_num, by rw [HF.out]; exact own4, hb4, Lib.hid (.inr ⟨rfl, HC.out⟩), by rw [List.length_append, List.length_singleton]; omega, by omega⟩
          case measure => simp [intOf]
        · have HF := Lib.hid (filt_drop (D := D) (x := s.extract mk s.size) (by rw [ByteArray.size_extract]; omega))
          go_wp2_with fail
          go_roundw
          case rel => exact ⟨D ++ [s.extract mk s.size], s.size + 1, s.size + 1, by go_num, by go_num, by rw [HF.out]; exact hown, hb, Lib.hid (.inr ⟨rfl, HC.out⟩), by rw [List.length_append, List.length_singleton]; omega, by omega⟩
          case measure => simp [intOf]
    · have hw : IsW 47 s D := by
        rcases hst.out with ⟨h, _⟩ | ⟨_, h⟩
        · omega
        · exact h
      have HW := Lib.hid hw
      clear hst hw
      go_wp2_with fail
      by_cases hz : 0 < s.size
      · have d1 : decide ((0 : Int) < (s.size : Int)) = true := decide_eq_true (by omega)
        have z0 : (0 : Int) < (s.size : Int) := by omega
        have z1 : (1 : Int) ≤ (s.size : Int) := by omega
        have z2 : s.size - 1 < s.size := by omega
        have c0 : (0 : Int) ≤ (s.size : Int) - 1 := by omega
        have c1 : (s.size : Int) - 1 < (s.size : Int) := by omega
        have c2 : IntKind.i64.wrap ((s.size : Int) - 1) = (s.size : Int) - 1 := IntWalk.i64_in _ (by omega)
        have c3 : ((s.size : Int) - 1).toNat = s.size - 1 := by omega
        go_quiet (fail)
        go_wp2_with fail
        refine bodyPost_ret (v := .tuple #[_, .bool _, .bool _]) (by simp [results, Tryz.results192, go_sem]; exact ⟨rfl, rfl, rfl⟩) rfl ?_
        exact ⟨_, D, _, _, rfl, HW.out, hown.below (below_drewN (Below.refl _ _) _), below_drewN hb _⟩
      · have d1 : decide ((0 : Int) < (s.size : Int)) = false := decide_eq_false (by omega)
        go_quiet (fail)
        go_wp2_with fail
        refine bodyPost_ret (v := .tuple #[_, .bool _, .bool _]) (by simp [results, Tryz.results192, go_sem]; exact ⟨rfl, rfl, rfl⟩) rfl ?_
        exact ⟨_, D, _, _, rfl, HW.out, hown.below (below_drewN (Below.refl _ _) _), below_drewN hb _⟩
end Go.Proofs.YtollifnnpihfdaaGreatDoor
/- Clean of the reference of layer 4. -/
namespace Go.Proofs.YtollifnnpihfdaaGreatDoor
open Go.RowKit
def szS (L : List ByteArray) : Nat := (L.map fun x => x.size + 1).sum
theorem fold_size : ∀ (L : List ByteArray) (t : ByteArray), (L.foldl (fun t x => t ++ ((⟨#[47]⟩ : ByteArray) ++ x)) t).size = t.size + szS L
  | [], t => by simp [szS]
  | x :: L, t => by
    rw [List.foldl_cons, fold_size L]
    have e : (t ++ ((⟨#[47]⟩ : ByteArray) ++ x)).size = t.size + (1 + x.size) := by rw [ByteArray.size_append, ByteArray.size_append]; rfl
    rw [e]
    simp only [szS, List.map_cons, List.sum_cons]
    omega
theorem slash_size (L : List ByteArray) : (slashL L).size = szS L := by
  unfold slashL; rw [fold_size]; show 0 + _ = _; omega
theorem szS_app (A B : List ByteArray) : szS (A ++ B) = szS A + szS B := by simp [szS]
theorem szS_take (M : List ByteArray) (k : Nat) : szS (M.take k) ≤ szS M := by
  have := szS_app (M.take k) (M.drop k)
  rw [List.take_append_drop] at this
  omega
theorem szS_filter : ∀ L : List ByteArray, szS (L.filter fullB) ≤ szS L
  | [] => Nat.le_refl _
  | x :: L => by
    have ih := szS_filter L
    have e : szS (x :: L) = x.size + 1 + szS L := by simp [szS]
    rw [List.filter_cons]
    split
    · have e2 : szS (x :: L.filter fullB) = x.size + 1 + szS (L.filter fullB) := by simp [szS]
      omega
    · omega
theorem szS_join (c : UInt8) : ∀ L : List ByteArray, L ≠ [] → szS L = (joinL c L).length + 1
  | [], h => absurd rfl h
  | [x], _ => by simp [szS, joinL, Lib.joinTail]
  | x :: y :: L, _ => by
    have ih := szS_join c (y :: L) (by simp)
    have e : szS (x :: y :: L) = x.size + 1 + szS (y :: L) := by simp [szS]
    rw [e, ih, joinL_cons]; simp; omega
theorem szS_whole {s : ByteArray} {L : List ByteArray} (hw : IsW 47 s L) : szS L = s.size + 1 := by
  rw [szS_join 47 L hw.ne, ← hw.eq, bsz]
theorem all_take_snocL (M : List ByteArray) (k : Nat) (h : k < M.length) : (M.take (k + 1)).all nameB = ((M.take k).all nameB && nameB M[k]) := by
  rw [List.take_succ_eq_append_getElem h, List.all_append]; simp
theorem slash_take (M : List ByteArray) (k : Nat) (h : k < M.length) : slashL (M.take (k + 1)) = slashL (M.take k) ++ (⟨#[47]⟩ ++ M[k]) := by
  rw [List.take_succ_eq_append_getElem h, slash_snoc]
theorem all_no (M : List ByteArray) (k : Nat) (h : k < M.length) (hf : nameB M[k] = false) : M.all nameB = false := by
  rw [← Bool.not_eq_true]; intro ha
  have := List.all_eq_true.1 ha _ (List.getElem_mem h)
  rw [hf] at this; cases this
theorem slash_nil (M : List ByteArray) : slashL (M.take 0) = ⟨#[]⟩ := rfl
attribute [local irreducible] nameB cleanB slashL
set_option maxRecDepth 100000 in
set_option maxHeartbeats 4000000 in
theorem rpclean (s : ByteArray) (w : World) (hs : s.size ≤ 100000) : Calls Tryz.prog 154 #[.string s] w fun e w' => e = .returned (.bool (cleanB s)) ∧ Below w.heap.size w w' := by
  go_enter Tryz.func154, Tryz.ntmps154
  go_wp2_with fail
  refine (rpsplit s _ hs).mono ?_
  rintro e w1 ⟨v, L, a, b, rfl, hw, hown, hb⟩
  have hcl := clean_ref hw
  have hsz1 := szS_filter L
  have hsz2 := szS_whole hw
  have hel : ∀ k (hk : k < (L.filter fullB).length), ((L.filter fullB)[k]'hk).size ≤ s.size := fun k hk => hw.size.2 _ (List.mem_filter.1 (List.getElem_mem hk)).1
  have hML : (L.filter fullB).length ≤ 100001 := by have := List.length_filter_le fullB L; have := hw.size.1; omega
  obtain ⟨A, c, rfl, hS⟩ := hown.strs
  generalize L.filter fullB = M at *
  have hss : szS M ≤ 100001 := by omega
  have HB := Lib.hid hb
  have HC := Lib.hid hcl
  have HEL := Lib.hid hel
  have HS := Lib.hid hS
  clear hcl hb hw hown hsz1 hsz2 hel hS
  go_wp2_with fail
  go_loop [6, 7] (fun t i => ∃ k : Nat, k ≤ M.length ∧ i = .int .i64 (k : Int) ∧ t = .string (slashL (M.take k)) ∧ Hid ((M.take k).all nameB = true)) (fun _ i => M.length - (intOf i).toNat)
  case atStart => exact ⟨0, Nat.zero_le _, rfl, by rw [slash_nil], Lib.hid rfl⟩
  case round =>
    obtain ⟨k, hk, rfl, rfl, hall⟩ := hrel
    by_cases hlt : k < M.length
    · obtain ⟨ad, rfl, hadb, hc⟩ := HS.out k hlt
      have hel := HEL.out k hlt
      have HST := Lib.hid (slash_take M k hlt)
      have HAT := Lib.hid (all_take_snocL M k hlt)
      have HNO := Lib.hid (all_no M k hlt)
      have hz : (slashL (M.take k)).size ≤ 100001 := by rw [slash_size]; have := szS_take M k; omega
      generalize M[k] = x at *
      generalize slashL (M.take k) = t at *
      go_wp2_with fail
      refine (rpname x _).mono ?_
      rintro e w2 ⟨rfl, rfl⟩
      cases hn : nameB x
      · have HR := Lib.hid (show cleanB s = false by rw [← HC.out, HNO.out hn]; rfl)
        clear hn
        go_wp2_with fail
        go_ret
        exact ⟨ret_b HR.out.symm, HB.out⟩
      · have HA2 := Lib.hid (show (M.take (k + 1)).all nameB = true by rw [HAT.out, hall.out, hn]; rfl)
        have hx1 : ((⟨#[47]⟩ : ByteArray) ++ x).size ≤ 100001 := by rw [ByteArray.size_append]; show 1 + x.size ≤ _; omega
        clear hn
        go_wp2_with fail
        go_round
        case rel => exact ⟨k + 1, by omega, by go_num, by rw [HST.out], HA2.out⟩
        case measure => simp [intOf]; omega
    · obtain rfl : k = M.length := by omega
      have hall' := hall.out
      rw [List.take_length] at hall'
      rw [List.take_length]
      have HC2 := Lib.hid (HC.out)
      rw [hall', Bool.true_and] at HC2
      generalize slashL M = t at *
      clear hall hall' HC hk hlt HS HEL
      cases e0 : (s.toList == [47])
      · rw [e0, Bool.false_or] at HC2
        by_cases hz : 0 < M.length
        · have d1 : decide ((0 : Int) < (M.length : Int)) = true := decide_eq_true (by omega)
          have d2 : decide (0 < M.length) = true := decide_eq_true hz
          rw [d2, Bool.true_and] at HC2
          cases e1 : (s.toList == t.toList)
          · rw [e1] at HC2
            go_wp2_with fail
            go_ret
            exact ⟨ret_b HC2.out, HB.out⟩
          · rw [e1] at HC2
            go_wp2_with fail
            go_ret
            exact ⟨ret_b HC2.out, HB.out⟩
        · have d1 : decide ((0 : Int) < (M.length : Int)) = false := decide_eq_false (by omega)
          have d2 : decide (0 < M.length) = false := decide_eq_false hz
          rw [d2, Bool.false_and] at HC2
          go_wp2_with fail
          go_ret
          exact ⟨ret_b HC2.out, HB.out⟩
      · rw [e0, Bool.true_or] at HC2
        go_wp2_with fail
        go_ret
        exact ⟨ret_b HC2.out, HB.out⟩
end Go.Proofs.YtollifnnpihfdaaGreatDoor
/- A range over a function whose iterator keeps its state in cells of its own (strings.SplitSeq): the law for the caller. lo .. hi: the iterator's own blocks. -/
namespace Go.Proofs.YtollifnnpihfdaaGreatDoor
open Go.RowKit
/-- Nothing but the blocks from lo to hi, and new ones, differs. -/
structure Mid (lo hi : Nat) (A B : World) : Prop where
  low : Below lo A B
  high : ∀ b, hi ≤ b → b < A.heap.size → B.heap[b]? = A.heap[b]?
/-- The blocks from lo to hi lie as they lay. -/
def Held (lo hi : Nat) (A B : World) : Prop := ∀ b, lo ≤ b → b < hi → B.heap[b]? = A.heap[b]?
theorem Held.refl (lo hi : Nat) (A : World) : Held lo hi A A := fun _ _ _ => rfl
theorem Held.trans {lo hi : Nat} {A B C : World} (h : Held lo hi A B) (k : Held lo hi B C) : Held lo hi A C := fun b h1 h2 => (k b h1 h2).trans (h b h1 h2)
theorem Held.put {lo hi l : Nat} (A : World) (o : Obj) (h : hi ≤ l) : Held lo hi A (A.putObj l o) := fun b _ h2 => World.putObj_heap_other (by omega)
theorem below_put {lo l : Nat} (A : World) (o : Obj) (h : lo ≤ l) (hl : l < A.heap.size) : Below lo A (A.putObj l o) :=
  (Below.refl lo A).grown (grownBy_putObj' A l o) (by omega) (fun k e => by cases e; exact h)
/-- What an iterator promises to whoever ranges over it. -/
def SeqC {α : Type} (F : Fence) (n : Nat) (P : Program) (g : Nat) (lb : Array Value) (enc : α → Value) (G : α → Prop) (lo hi : Nat) (S Sp : List α → Prop) (N : Nat) (w : World) : Prop :=
  ∀ (l : Nat) (J Jx : List α → World → Prop) (W : World), Below w.heap.size w W → (∀ pre A B, J pre A → Mid lo hi A B → J pre B) → (∀ pre A B, Jx pre A → Mid lo hi A B → Jx pre B) →
    (∀ pre x A, G x → J pre A → pre.length < N → YieldAt F (n - 1) P l #[enc x] A fun e B =>
      (e = .returned (.bool true) ∧ J (pre ++ [x]) B ∧ Held lo hi A B) ∨ (e = .returned (.bool false) ∧ Jx (pre ++ [x]) B)) →
    J [] W →
    CallsIn F n P g (#[.func (.yield l) #[] #[]] ++ lb) W fun e B => (∃ v, e = .returned v) ∧ ((∃ xs, S xs ∧ J xs B) ∨ (∃ pre, Sp pre ∧ Jx pre B))
variable {F : Fence} {n : Nat} {P : Program}
theorem range_state {α : Type} {g : Operand} {ps : Array Tmp} {assign body : Code} {Q : Exit → Act → World → Prop} {a : Act} {w : World}
    (hro : F.round = none) (h1 : 1 ≤ n) {gf : Nat} {lb : Array Value} (hg : a.eval g = .func (.func gf) #[] lb) (hFg : F.fn gf) (eg : ∀ args w, (callFunc gf args).run P w = .ok (.enter gf args) w)
    {enc : α → Value} {G : α → Prop} {S Sp : List α → Prop} {N lo hi : Nat} (hlh : lo ≤ hi) (hhi : hi ≤ w.heap.size) (hseq : SeqC F (n - 1) P gf lb enc G lo hi S Sp N w) (hps : ps.size = 1)
    (I : List α → World → Prop) (Ix : Code → List α → World → Prop) (hI : ∀ pre A B, I pre A → Below lo A B → I pre B) (hIx : ∀ c pre A B, Ix c pre A → Below lo A B → Ix c pre B) (h0 : I [] w) (a₁ : α → Act)
    (hassign : ∀ (l : Nat) (x : α) (W : World) (K : Act → World → Prop), K (a₁ x) W →
      assign.wpIn (F.inRound l) (n - 1 - 1) P (Exit.then K (fun _ _ _ => False)) { tmps := (ps.zip #[enc x]).foldl (fun t (p, v) => t.setIfInBounds p v) a.tmps, defers := [] } W)
    (hbody : ∀ (l : Nat) (pre : List α) (x : α) (W : World), G x → I pre W → hi ≤ W.heap.size → pre.length < N → body.wpIn (F.inRound l) (n - 1 - 1) P (ownPostK (Held lo hi) I Ix (pre ++ [x]) W) (a₁ x) W)
    (hdone : ∀ (D : Nat) (xs : List α) (W : World), w.heap.size ≤ D → S xs → I xs W → W.heap[D]? = some (.deferred (some [])) → Q .normal { a with defers := { target := .collected D, args := #[] } :: a.defers } W)
    (hstop : ∀ (D : Nat) (c : Code) (pre : List α) (W : World), w.heap.size ≤ D → Sp pre → Ix c pre W → W.heap[D]? = some (.deferred (some [])) → c.wpIn F n P Q { a with defers := { target := .collected D, args := #[] } :: a.defers } W) :
    (Code.rangeFunc g ps assign body).wpIn F n P Q a w := by
  refine wpIn_rangeFunc fun fn hfn => ?_
  rw [hro]
  generalize hk : w.heap.size = k at *
  let rec' : LoopState → Option Code → Loop := fun st pe => { state := st, pending := pe, fn, tmps := a.tmps, params := ps, assign, body, defers := k }
  obtain ⟨r, hr⟩ : ∃ r, r = rec' := ⟨_, rfl⟩
  have e1 := World.alloc_heap_new w (.deferred (some []))
  have e2 := World.alloc_heap_new (w.alloc (.deferred (some []))) (.loop (r .ready none))
  have e3 := Below.heap_alloc (w.alloc (.deferred (some []))) (.loop (r .ready none)) k (by simp; omega)
  have hB : Below k w ((w.alloc (.deferred (some []))).alloc (.loop (r .ready none))) := ((Below.refl k w).alloc (by omega) _).alloc (by simp; omega) _
  have hrun := run_enterLoop_outer (P := P) (w := w) fn a.tmps ps assign body
  rw [World.size_alloc, hk] at e2
  rw [hk] at e1 hrun
  have e4 : ((w.alloc (.deferred (some []))).alloc (.loop (r .ready none))).heap[k]? = some (.deferred (some [])) := e3.trans e1
  have hrun' : (Instr.enterLoop fn a.tmps ps assign body none).run P w = .ok (k + 1, [{ target := .collected k, args := #[] }]) ((w.alloc (.deferred (some []))).alloc (.loop (r .ready none))) := by rw [hr]; exact hrun
  generalize (w.alloc (.deferred (some []))).alloc (.loop (r .ready none)) = W1 at *
  refine ⟨k + 1, _, W1, { target := .fn (.func gf) lb, args := #[.func (.yield (k + 1)) #[] #[]] }, W1, gf, #[.func (.yield (k + 1)) #[] #[]] ++ lb, W1, hrun', ?_, ?_, ?_, fun _ => h1, ?_⟩
  · simp only [resolve, hg]
    simp [go_sem]
  · intro f' hf'
    simp [Target.leads] at hf'
    subst hf'
    exact hFg
  · simp [invoke, go_sem, eg]
  refine (hseq (k + 1) (fun pre W => I pre W ∧ W.heap[k + 1]? = some (.loop (r .ready none)) ∧ W.heap[k]? = some (.deferred (some [])))
    (fun pre W => ∃ c, Ix c pre W ∧ W.heap[k + 1]? = some (.loop (r .done (some c))) ∧ W.heap[k]? = some (.deferred (some []))) W1 (by rw [hk]; exact hB) ?_ ?_ ?_ ⟨hI [] w W1 h0 (hB.mono (by omega)), e2, e4⟩).mono ?_
  · rintro pre A B ⟨a1, a2, a3⟩ hm
    exact ⟨hI pre A B a1 hm.low, (hm.high (k + 1) (by omega) (Array.getElem?_eq_some_iff.1 a2).1).trans a2, (hm.high k (by omega) (Array.getElem?_eq_some_iff.1 a3).1).trans a3⟩
  · rintro pre A B ⟨c, a1, a2, a3⟩ hm
    exact ⟨c, hIx c pre A B a1 hm.low, (hm.high (k + 1) (by omega) (Array.getElem?_eq_some_iff.1 a2).1).trans a2, (hm.high k (by omega) (Array.getElem?_eq_some_iff.1 a3).1).trans a3⟩
  · rintro pre x A hGx ⟨a1, a2, a3⟩ hlen
    have hlt : k + 1 < A.heap.size := (Array.getElem?_eq_some_iff.1 a2).1
    have hy := run_yield (P := P) (args := #[enc x]) a2 (by rw [hr]; simp [rec', hps])
    have hb := run_beginRound (P := P) a2 (by rw [hr])
    have p1 : (A.putObj (k + 1) (.loop { r .ready none with state := .busy })).heap[k + 1]? = some (.loop { r .ready none with state := .busy }) := World.putObj_heap_same hlt
    have p2 : (A.putObj (k + 1) (.loop { r .ready none with state := .busy })).heap[k]? = some (.deferred (some [])) := (World.putObj_heap_other (by omega)).trans a3
    have p3 : I pre (A.putObj (k + 1) (.loop { r .ready none with state := .busy })) := hI pre A _ a1 (below_put A _ (by omega) hlt)
    have p4 : Held lo hi A (A.putObj (k + 1) (.loop { r .ready none with state := .busy })) := Held.put A _ (by omega)
    have p5 : hi ≤ (A.putObj (k + 1) (.loop { r .ready none with state := .busy })).heap.size := by
      have := (Array.getElem?_eq_some_iff.1 p1).1
      omega
    have q1 : ({ r .ready none with state := .busy } : Loop) = r .busy none := by rw [hr]
    rw [q1] at hb p1 p2 p3 p4 p5
    generalize A.putObj (k + 1) (.loop (r .busy none)) = A1 at *
    have q2 : ∀ (jump : Option Code), ({ r .busy none with state := (if jump.isNone then .ready else .done), pending := jump } : Loop) = r (if jump.isNone then .ready else .done) jump := fun jump => by rw [hr]
    have fin : ∀ (jump : Option Code) (C : World), KeepsOthers A1 C → (Instr.endRound (k + 1) jump).run P C = .ok (.bool jump.isNone) (C.putObj (k + 1) (.loop (r (if jump.isNone then .ready else .done) jump))) ∧ k + 1 < C.heap.size ∧
        (C.putObj (k + 1) (.loop (r (if jump.isNone then .ready else .done) jump))).heap[k + 1]? = some (.loop (r (if jump.isNone then .ready else .done) jump)) ∧
        (C.putObj (k + 1) (.loop (r (if jump.isNone then .ready else .done) jump))).heap[k]? = some (.deferred (some [])) := fun jump C hC => by
      have c1 := hC.same _ _ p1 rfl
      have c2 := hC.same _ _ p2 rfl
      have c3 := (Array.getElem?_eq_some_iff.1 c1).1
      have c4 := run_endRound (P := P) jump c1
      refine ⟨?_, c3, World.putObj_heap_same c3, (World.putObj_heap_other (by omega)).trans c2⟩
      rw [← q2 jump]
      exact c4
    have hy' : (Instr.yield (k + 1) #[enc x]).run P A = .ok (.round (k + 1) fn ((ps.zip #[enc x]).foldl (fun t (p, v) => t.setIfInBounds p v) a.tmps) assign body) A := by
      rw [hy, hr]
    refine ⟨fn, _, assign, body, hy', roundIn_of_wpIn hfn (hassign (k + 1) x A _ ⟨A1, hb, ?_⟩)⟩
    refine wpIn_mono (hbody (k + 1) pre x A1 hGx p3 p5 hlen) ?_
    rintro e a3' C hp
    cases e with
    | normal =>
      obtain ⟨b1, b2, b3⟩ := hp
      obtain ⟨f1, f2, f3, f4⟩ := fin none C b1
      exact ⟨_, _, f1, .inl ⟨rfl, ⟨hI _ C _ b3 (below_put C _ (by omega) f2), f3, f4⟩, (p4.trans b2).trans (Held.put C _ (by omega))⟩⟩
    | ret =>
      obtain ⟨b1, b3⟩ := hp
      obtain ⟨f1, f2, f3, f4⟩ := fin (some .ret) C b1
      exact ⟨_, _, f1, .inr ⟨rfl, .ret, hIx _ _ C _ b3 (below_put C _ (by omega) f2), f3, f4⟩⟩
    | exit id =>
      obtain ⟨b1, b3⟩ := hp
      obtain ⟨f1, f2, f3, f4⟩ := fin (some (.exit id)) C b1
      exact ⟨_, _, f1, .inr ⟨rfl, .exit id, hIx _ _ C _ b3 (below_put C _ (by omega) f2), f3, f4⟩⟩
    | goto t =>
      obtain ⟨b1, b3⟩ := hp
      obtain ⟨f1, f2, f3, f4⟩ := fin (some (.goto t)) C b1
      exact ⟨_, _, f1, .inr ⟨rfl, .goto t, hIx _ _ C _ b3 (below_put C _ (by omega) f2), f3, f4⟩⟩
    | panic ch => exact hp.elim
    | outgrown => exact hp.elim
  · rintro e B ⟨⟨v, rfl⟩, (⟨xs, s1, s2, s3, s4⟩ | ⟨pre, s1, c, s2, s3, s4⟩)⟩
    · have hlt := (Array.getElem?_eq_some_iff.1 s3).1
      have hend := run_endLoop (P := P) s3 (by rw [hr]; simp [rec'])
      exact ⟨none, _, by rw [hend, hr], hdone k xs _ (Nat.le_refl _) s1 (hI _ B _ s2 (below_put B _ (by omega) hlt)) ((World.putObj_heap_other (by omega)).trans s4)⟩
    · have hlt := (Array.getElem?_eq_some_iff.1 s3).1
      have hend := run_endLoop (P := P) s3 (by rw [hr]; simp [rec'])
      exact ⟨some c, _, by rw [hend, hr], hstop k c pre _ (Nat.le_refl _) s1 (hIx _ _ B _ s2 (below_put B _ (by omega) hlt)) ((World.putObj_heap_other (by omega)).trans s4)⟩
end Go.Proofs.YtollifnnpihfdaaGreatDoor
/- strings.SplitSeq at a comma: what its iterator yields. -/
namespace Go.Proofs.YtollifnnpihfdaaGreatDoor
open Go.RowKit Go.Shelf
attribute [local go_sem] Oper.semAt_some
def leftS (B : Nat) (W : World) : Nat := match W.cell? ⟨B, 0, none⟩ with
  | some (.string r) => r.size
  | _ => 0
theorem leftS_eq {B : Nat} {W : World} {t : TypeId} {r : ByteArray} (h : Boxed W B t (.string r)) : leftS B W = r.size := by unfold leftS; rw [h.cell]
theorem Boxed.below {A W : World} {n B : Nat} {t : TypeId} {v : Value} (h : Boxed A B t v) (hb : Below n A W) (hn : B < n) : Boxed W B t v := (hb.block B hn).trans h
theorem Boxed.held {A W : World} {lo hi B : Nat} {t : TypeId} {v : Value} (h : Boxed A B t v) (hb : Held lo hi A W) (h1 : lo ≤ B) (h2 : B < hi) : Boxed W B t v := (hb B h1 h2).trans h
theorem Boxed.aside {W : World} {B C : Nat} {t : TypeId} {v : Value} (h : Boxed W B t v) (v' : Value) (hne : B ≠ C) : Boxed (W.setCell ⟨C, 0, none⟩ v') B t v := (Below.heap_setCell W ⟨C, 0, none⟩ v' B hne).trans h
theorem mid_set {W : World} {lo hi B : Nat} (v : Value) (h1 : lo ≤ B) (h2 : B < hi) : Mid lo hi W (W.setCell ⟨B, 0, none⟩ v) :=
  ⟨(Below.refl lo W).setCell (p := ⟨B, 0, none⟩) h1 v, fun b hb _ => Below.heap_setCell W ⟨B, 0, none⟩ v b (by show b ≠ B; omega)⟩
theorem flat_count (c : UInt8) : ∀ D : List ByteArray, D.length ≤ (flatC c D).length
  | [] => by simp
  | d :: D => by
    have : flatC c (d :: D) = d.data.toList ++ c :: flatC c D := by simp [flatC]
    have ih := flat_count c D
    rw [this]; simp; omega
structure SeqSt (s : ByteArray) (pre : List ByteArray) (r : ByteArray) : Prop where
  eq : flatC 44 pre ++ r.data.toList = s.data.toList
  no : ∀ d ∈ pre, NoC 44 d
theorem SeqSt.start (s : ByteArray) : SeqSt s [] s := ⟨by simp [flatC], by simp⟩
theorem SeqSt.bounds {s r : ByteArray} {pre : List ByteArray} (h : SeqSt s pre r) : pre.length < s.size + 1 ∧ r.size ≤ s.size := by
  have h1 := flat_count 44 pre
  have h2 := congrArg List.length h.eq
  rw [List.length_append, bsz, bsz] at h2
  omega
theorem SeqSt.last {s r : ByteArray} {pre : List ByteArray} (h : SeqSt s pre r) (hn : ∀ x ∈ r.data.toList, x ≠ 44) : IsW 44 s (pre ++ [r]) :=
  isW_flat h.eq h.no ⟨by simp, fun x hx => by rw [List.mem_singleton.1 hx]; exact hn, by simp [joinL, Lib.joinTail]⟩
theorem SeqSt.next {s r : ByteArray} {pre : List ByteArray} (h : SeqSt s pre r) {i : Nat} (hi : i < r.size) (he : r.data.toList = r.data.toList.take i ++ 44 :: r.data.toList.drop (i + 1)) (hn : ∀ x ∈ r.data.toList.take i, x ≠ 44) :
    SeqSt s (pre ++ [r.extract 0 i]) (r.extract (i + 1) r.size) ∧ ∃ rest, IsW 44 s (pre ++ [r.extract 0 i] ++ rest) := by
  have e1 : (r.extract 0 i).data.toList = r.data.toList.take i := by rw [extract_list, List.drop_zero]
  have e2 : (r.extract (i + 1) r.size).data.toList = r.data.toList.drop (i + 1) := by rw [extract_list, List.take_of_length_le (by rw [bsz]; exact Nat.le_refl _)]
  have h1 : SeqSt s (pre ++ [r.extract 0 i]) (r.extract (i + 1) r.size) := by
    refine ⟨?_, ?_⟩
    · rw [flatC_snoc, e1, e2, ← h.eq]
      conv => rhs; rw [he]
      simp
    · intro d hd
      rcases List.mem_append.1 hd with hd | hd
      · exact h.no d hd
      · rw [List.mem_singleton.1 hd]; intro b hb; rw [e1] at hb; exact hn b hb
  exact ⟨h1, piecesOf 44 (r.extract (i + 1) r.size), isW_flat h1.eq h1.no (isW_pieces _ _)⟩
theorem vidx (s : ByteArray) (c : UInt8) (w : World) : Calls Tryz.prog 287 #[.string s, .string ⟨#[c]⟩] w fun e w' => e = .returned (.int .i64 (Lib.indexByte s.data.toList c)) ∧ w = w' :=
  (Tryz.strings_Index_one s c w).mono fun _ _ h => ⟨h.1, h.2.symm⟩
set_option maxRecDepth 100000 in
set_option maxHeartbeats 2000000 in
theorem split_seq (n B : Nat) (hn : 1 ≤ n) (s : ByteArray) (w : World) (hs : s.size ≤ 100000) (b1 : Boxed w B 9 (.string s)) (b2 : Boxed w (B + 1) 9 (.string ⟨#[44]⟩)) (b3 : Boxed w (B + 2) 3 (.int .i64 0)) :
    SeqC Fence.wide n Tryz.prog 285 #[.pointer (some ⟨B + 1, 0, none⟩), .pointer (some ⟨B, 0, none⟩), .pointer (some ⟨B + 2, 0, none⟩)] (fun x : ByteArray => Value.string x) (fun x => x.size ≤ 100000) B (B + 3)
      (fun xs => IsW 44 s xs) (fun pre => ∃ rest, IsW 44 s (pre ++ rest)) (s.size + 1) w := by
  intro l J Jx W hW hJ hJx hY h0
  have c1 := Boxed.below b1 hW b1.lt
  have c2 := Boxed.below b2 hW b2.lt
  have c3 := Boxed.below b3 hW b3.lt
  clear b1 b2 b3 hW
  refine callsIn_of_wp Tryz.func285 rfl trivial ?_ rfl
  simp only [Tryz.ntmps285, List.size_toArray, List.length_cons, List.length_nil, Nat.reduceAdd, Nat.reduceSub, Array.replicate_succ, Array.replicate_zero, List.push_toArray, List.append_toArray, List.nil_append, List.cons_append]
  have d2 := c2.cell
  gi_wp2
  gi_loopw [7] (fun _ wr => ∃ (pre : List ByteArray) (r : ByteArray), Boxed wr B 9 (.string r) ∧ Boxed wr (B + 1) 9 (.string ⟨#[44]⟩) ∧ Boxed wr (B + 2) 3 (.int .i64 0) ∧ Hid (SeqSt s pre r) ∧ J pre wr) (fun _ wr => leftS B wr)
  case atStart => exact ⟨[], s, c1, c2, c3, Lib.hid (SeqSt.start s), h0⟩
  case round =>
    obtain ⟨pre, r, e1, e2, e3, hst, hj⟩ := hrel
    clear c1 c2 c3 d2 h0
    have e1' := Lib.hid (leftS_eq e1)
    have f1 := e1.cell
    have f2 := e2.cell
    have f3 := e3.cell
    have f4 := e1.frozen
    obtain ⟨hb1, hb2⟩ := hst.out.bounds
    have hrs : r.size ≤ 100000 := by omega
    rcases ib_spec 44 r.data.toList with ⟨h1, h2⟩ | ⟨i, h1, h2, h3, h4⟩
    · have HI := Lib.hid h1
      have HL := Lib.hid (hst.out.last h2)
      obtain ⟨fn, tmps, assign, body, hy, hR⟩ := hY pre r wr hrs hj (by omega)
      clear h1 h2
      gi_wp2_with (refine ⟨trivial, ?_⟩; gi_at_call 287; refine (callsIn_wide.2 (vidx r 44 _)).mono ?_; rintro e w' ⟨rfl, rfl⟩; rw [HI.out])
      refine hR.mono ?_
      rintro e W3 (⟨rfl, hJ3, hk3⟩ | ⟨rfl, hJx3⟩)
      · gi_wp2
        go_end0
        exact ⟨⟨_, rfl⟩, .inl ⟨_, HL.out, hJ3⟩⟩
      · gi_wp2
        go_end0
        exact ⟨⟨_, rfl⟩, .inr ⟨_, ⟨[], by rw [List.append_nil]; exact HL.out⟩, hJx3⟩⟩
    · have HI := Lib.hid h1
      rw [bsz] at h2
      have HL := Lib.hid (hst.out.next h2 h3 h4)
      have c1 : (0 : Int) ≤ (i : Int) := by omega
      have c2 : (i : Int) ≤ (r.size : Int) := by omega
      have c3 : (0 : Int) ≤ (i : Int) + 1 := by omega
      have c4 : (i : Int) + 1 ≤ (r.size : Int) := by omega
      obtain ⟨fn, tmps, assign, body, hy, hR⟩ := hY pre (r.extract 0 i) wr (by simp; omega) hj (by omega)
      clear h1 h3 h4
      gi_wp2_with (refine ⟨trivial, ?_⟩; gi_at_call 287; refine (callsIn_wide.2 (vidx r 44 _)).mono ?_; rintro e w' ⟨rfl, rfl⟩; rw [HI.out])
      refine hR.mono ?_
      rintro e W3 (⟨rfl, hJ3, hk3⟩ | ⟨rfl, hJx3⟩)
      · have g1 := Boxed.held e1 hk3 (Nat.le_refl _) (by omega)
        have g2 := Boxed.held e2 hk3 (by omega) (by omega)
        have g3 := Boxed.held e3 hk3 (by omega) (by omega)
        clear e1 e2 e3 f1 f2 f3 f4 hy hR hj hk3
        have f1 := g1.cell
        have f2 := g2.cell
        have f4 := g1.frozen
        gi_wp2
        go_roundw
        case rel => exact ⟨pre ++ [r.extract 0 i], r.extract (i + 1) r.size, g1.set _, Boxed.aside g2 _ (by omega), Boxed.aside g3 _ (by omega), Lib.hid HL.out.1, hJ _ _ _ hJ3 (mid_set _ (Nat.le_refl _) (by omega))⟩
        case measure => rw [leftS_eq (g1.set _), e1'.out]; simp; omega
      · gi_wp2
        refine bodyPost_ret (results_none rfl _ _ _) rfl ?_
        exact ⟨⟨_, rfl⟩, .inr ⟨_, HL.out.2, hJx3⟩⟩
end Go.Proofs.YtollifnnpihfdaaGreatDoor
/- strings.SplitSeq at a slash: what its iterator yields. -/
namespace Go.Proofs.YtollifnnpihfdaaGreatDoor
open Go.RowKit Go.Shelf
attribute [local go_sem] Oper.semAt_some
structure SeqSP (s : ByteArray) (pre : List ByteArray) (r : ByteArray) : Prop where
  eq : flatC 47 pre ++ r.data.toList = s.data.toList
  no : ∀ d ∈ pre, NoC 47 d
theorem SeqSP.start (s : ByteArray) : SeqSP s [] s := ⟨by simp [flatC], by simp⟩
theorem SeqSP.bounds {s r : ByteArray} {pre : List ByteArray} (h : SeqSP s pre r) : pre.length < s.size + 1 ∧ r.size ≤ s.size := by
  have h1 := flat_count 47 pre
  have h2 := congrArg List.length h.eq
  rw [List.length_append, bsz, bsz] at h2
  omega
theorem SeqSP.last {s r : ByteArray} {pre : List ByteArray} (h : SeqSP s pre r) (hn : ∀ x ∈ r.data.toList, x ≠ 47) : IsW 47 s (pre ++ [r]) :=
  isW_flat h.eq h.no ⟨by simp, fun x hx => by rw [List.mem_singleton.1 hx]; exact hn, by simp [joinL, Lib.joinTail]⟩
theorem SeqSP.next {s r : ByteArray} {pre : List ByteArray} (h : SeqSP s pre r) {i : Nat} (hi : i < r.size) (he : r.data.toList = r.data.toList.take i ++ 47 :: r.data.toList.drop (i + 1)) (hn : ∀ x ∈ r.data.toList.take i, x ≠ 47) :
    SeqSP s (pre ++ [r.extract 0 i]) (r.extract (i + 1) r.size) ∧ ∃ rest, IsW 47 s (pre ++ [r.extract 0 i] ++ rest) := by
  have e1 : (r.extract 0 i).data.toList = r.data.toList.take i := by rw [extract_list, List.drop_zero]
  have e2 : (r.extract (i + 1) r.size).data.toList = r.data.toList.drop (i + 1) := by rw [extract_list, List.take_of_length_le (by rw [bsz]; exact Nat.le_refl _)]
  have h1 : SeqSP s (pre ++ [r.extract 0 i]) (r.extract (i + 1) r.size) := by
    refine ⟨?_, ?_⟩
    · rw [flatC_snoc, e1, e2, ← h.eq]
      conv => rhs; rw [he]
      simp
    · intro d hd
      rcases List.mem_append.1 hd with hd | hd
      · exact h.no d hd
      · rw [List.mem_singleton.1 hd]; intro b hb; rw [e1] at hb; exact hn b hb
  exact ⟨h1, piecesOf 47 (r.extract (i + 1) r.size), isW_flat h1.eq h1.no (isW_pieces _ _)⟩
set_option maxRecDepth 100000 in
set_option maxHeartbeats 2000000 in
theorem split_seqP (n B : Nat) (hn : 1 ≤ n) (s : ByteArray) (w : World) (hs : s.size ≤ 100000) (b1 : Boxed w B 9 (.string s)) (b2 : Boxed w (B + 1) 9 (.string ⟨#[47]⟩)) (b3 : Boxed w (B + 2) 3 (.int .i64 0)) :
    SeqC Fence.wide n Tryz.prog 285 #[.pointer (some ⟨B + 1, 0, none⟩), .pointer (some ⟨B, 0, none⟩), .pointer (some ⟨B + 2, 0, none⟩)] (fun x : ByteArray => Value.string x) (fun x => x.size ≤ 100000) B (B + 3)
      (fun xs => IsW 47 s xs) (fun pre => ∃ rest, IsW 47 s (pre ++ rest)) (s.size + 1) w := by
  intro l J Jx W hW hJ hJx hY h0
  have c1 := Boxed.below b1 hW b1.lt
  have c2 := Boxed.below b2 hW b2.lt
  have c3 := Boxed.below b3 hW b3.lt
  clear b1 b2 b3 hW
  refine callsIn_of_wp Tryz.func285 rfl trivial ?_ rfl
  simp only [Tryz.ntmps285, List.size_toArray, List.length_cons, List.length_nil, Nat.reduceAdd, Nat.reduceSub, Array.replicate_succ, Array.replicate_zero, List.push_toArray, List.append_toArray, List.nil_append, List.cons_append]
  have d2 := c2.cell
  gi_wp2
  gi_loopw [7] (fun _ wr => ∃ (pre : List ByteArray) (r : ByteArray), Boxed wr B 9 (.string r) ∧ Boxed wr (B + 1) 9 (.string ⟨#[47]⟩) ∧ Boxed wr (B + 2) 3 (.int .i64 0) ∧ Hid (SeqSP s pre r) ∧ J pre wr) (fun _ wr => leftS B wr)
  case atStart => exact ⟨[], s, c1, c2, c3, Lib.hid (SeqSP.start s), h0⟩
  case round =>
    obtain ⟨pre, r, e1, e2, e3, hst, hj⟩ := hrel
    clear c1 c2 c3 d2 h0
    have e1' := Lib.hid (leftS_eq e1)
    have f1 := e1.cell
    have f2 := e2.cell
    have f3 := e3.cell
    have f4 := e1.frozen
    obtain ⟨hb1, hb2⟩ := hst.out.bounds
    have hrs : r.size ≤ 100000 := by omega
    rcases ib_spec 47 r.data.toList with ⟨h1, h2⟩ | ⟨i, h1, h2, h3, h4⟩
    · have HI := Lib.hid h1
      have HL := Lib.hid (hst.out.last h2)
      obtain ⟨fn, tmps, assign, body, hy, hR⟩ := hY pre r wr hrs hj (by omega)
      clear h1 h2
      gi_wp2_with (refine ⟨trivial, ?_⟩; gi_at_call 287; refine (callsIn_wide.2 (vidx r 47 _)).mono ?_; rintro e w' ⟨rfl, rfl⟩; rw [HI.out])
      refine hR.mono ?_
      rintro e W3 (⟨rfl, hJ3, hk3⟩ | ⟨rfl, hJx3⟩)
      · gi_wp2
        go_end0
        exact ⟨⟨_, rfl⟩, .inl ⟨_, HL.out, hJ3⟩⟩
      · gi_wp2
        go_end0
        exact ⟨⟨_, rfl⟩, .inr ⟨_, ⟨[], by rw [List.append_nil]; exact HL.out⟩, hJx3⟩⟩
    · have HI := Lib.hid h1
      rw [bsz] at h2
      have HL := Lib.hid (hst.out.next h2 h3 h4)
      have c1 : (0 : Int) ≤ (i : Int) := by omega
      have c2 : (i : Int) ≤ (r.size : Int) := by omega
      have c3 : (0 : Int) ≤ (i : Int) + 1 := by omega
      have c4 : (i : Int) + 1 ≤ (r.size : Int) := by omega
      obtain ⟨fn, tmps, assign, body, hy, hR⟩ := hY pre (r.extract 0 i) wr (by simp; omega) hj (by omega)
      clear h1 h3 h4
      gi_wp2_with (refine ⟨trivial, ?_⟩; gi_at_call 287; refine (callsIn_wide.2 (vidx r 47 _)).mono ?_; rintro e w' ⟨rfl, rfl⟩; rw [HI.out])
      refine hR.mono ?_
      rintro e W3 (⟨rfl, hJ3, hk3⟩ | ⟨rfl, hJx3⟩)
      · have g1 := Boxed.held e1 hk3 (Nat.le_refl _) (by omega)
        have g2 := Boxed.held e2 hk3 (by omega) (by omega)
        have g3 := Boxed.held e3 hk3 (by omega) (by omega)
        clear e1 e2 e3 f1 f2 f3 f4 hy hR hj hk3
        have f1 := g1.cell
        have f2 := g2.cell
        have f4 := g1.frozen
        gi_wp2
        go_roundw
        case rel => exact ⟨pre ++ [r.extract 0 i], r.extract (i + 1) r.size, g1.set _, Boxed.aside g2 _ (by omega), Boxed.aside g3 _ (by omega), Lib.hid HL.out.1, hJ _ _ _ hJ3 (mid_set _ (Nat.le_refl _) (by omega))⟩
        case measure => rw [leftS_eq (g1.set _), e1'.out]; simp; omega
      · gi_wp2
        refine bodyPost_ret (results_none rfl _ _ _) rfl ?_
        exact ⟨⟨_, rfl⟩, .inr ⟨_, HL.out.2, hJx3⟩⟩
end Go.Proofs.YtollifnnpihfdaaGreatDoor

/- Texts of one proof, laid together. -/
import Derived.Lib.SplitLaws
import Derived.Lib.Join
import Derived.Test.YtbbihfafkpniiaaGreatDoorC02
import Derived.Test.YtbbihfafkpniiaaGreatDoorProg
import Derived.Lib.Hide
import Derived.WalkSpells
import Derived.LoopTactic
import Derived.Outline
import Derived.IntWalk
import Derived.Laws.BitsAllLaws
/- A text cut at each byte c: the pieces are unique; strings.Split's pieces are they, and so are those of the loop of kauditref01.Cut. -/
namespace Go.Proofs.YtbbihfafkpniiaaGreatDoor
def NoC (c : UInt8) (s : ByteArray) : Prop := ∀ b ∈ s.data.toList, b ≠ c
def joinL (c : UInt8) : List ByteArray → List UInt8
  | [] => []
  | x :: L => x.data.toList ++ Lib.joinTail [c] (L.map (·.data.toList))
theorem joinL_cons (c : UInt8) (x y : ByteArray) (L : List ByteArray) : joinL c (x :: y :: L) = x.data.toList ++ c :: joinL c (y :: L) := by
  simp [joinL, Lib.joinTail]
structure IsW (c : UInt8) (s : ByteArray) (L : List ByteArray) : Prop where
  ne : L ≠ []
  no : ∀ x ∈ L, NoC c x
  eq : s.data.toList = joinL c L
theorem c_split {c : UInt8} : ∀ {a b t u : List UInt8}, (∀ x ∈ a, x ≠ c) → (∀ x ∈ b, x ≠ c) → (t = [] ∨ ∃ r, t = c :: r) → (u = [] ∨ ∃ r, u = c :: r) → a ++ t = b ++ u → a = b ∧ t = u
  | [], [], t, u, _, _, _, _, h => by simpa using h
  | [], y :: b, t, u, _, hb, ht, _, h => by
    rcases ht with rfl | ⟨r, rfl⟩
    · simp at h
    · simp at h; exact absurd h.1.symm (hb y List.mem_cons_self)
  | x :: a, [], t, u, ha, _, _, hu, h => by
    rcases hu with rfl | ⟨r, rfl⟩
    · simp at h
    · simp at h; exact absurd h.1 (ha x List.mem_cons_self)
  | x :: a, y :: b, t, u, ha, hb, ht, hu, h => by
    simp only [List.cons_append, List.cons.injEq] at h
    obtain ⟨h1, h2⟩ := c_split (fun c hc => ha c (List.mem_cons_of_mem _ hc)) (fun c hc => hb c (List.mem_cons_of_mem _ hc)) ht hu h.2
    exact ⟨by rw [h.1, h1], h2⟩
theorem bsz (s : ByteArray) : s.data.toList.length = s.size := by simp
theorem data_inj {a b : ByteArray} (h : a.data.toList = b.data.toList) : a = b := by
  cases a; cases b; simp at h; exact congrArg _ h
theorem joinL_inj {c : UInt8} : ∀ {L M : List ByteArray}, L ≠ [] → M ≠ [] → (∀ x ∈ L, NoC c x) → (∀ x ∈ M, NoC c x) → joinL c L = joinL c M → L = M
  | [], _, h, _, _, _, _ => absurd rfl h
  | _ :: _, [], _, h, _, _, _ => absurd rfl h
  | [x], [y], _, _, _, _, h => by
    have h' : x.data.toList = y.data.toList := by simpa [joinL, Lib.joinTail] using h
    rw [data_inj h']
  | [x], y :: z :: M, _, _, hx, hy, h => by
    rw [joinL_cons] at h
    have h' : x.data.toList ++ [] = y.data.toList ++ c :: joinL c (z :: M) := by rw [← h]; simp [joinL, Lib.joinTail]
    have := (c_split (hx x (by simp)) (hy y (by simp)) (.inl rfl) (.inr ⟨_, rfl⟩) h').2
    cases this
  | x :: z :: L, [y], _, _, hx, hy, h => by
    rw [joinL_cons] at h
    have h' : x.data.toList ++ c :: joinL c (z :: L) = y.data.toList ++ [] := by rw [h]; simp [joinL, Lib.joinTail]
    have := (c_split (hx x (by simp)) (hy y (by simp)) (.inr ⟨_, rfl⟩) (.inl rfl) h').2
    cases this
  | x :: x2 :: L, y :: y2 :: M, _, _, hx, hy, h => by
    rw [joinL_cons, joinL_cons] at h
    obtain ⟨h1, h2⟩ := c_split (hx x (by simp)) (hy y (by simp)) (.inr ⟨_, rfl⟩) (.inr ⟨_, rfl⟩) h
    simp only [List.cons.injEq, true_and] at h2
    rw [data_inj h1, joinL_inj (by simp) (by simp) (fun s hs => hx s (List.mem_cons_of_mem _ hs)) (fun s hs => hy s (List.mem_cons_of_mem _ hs)) h2]
theorem IsW.unique {c : UInt8} {s : ByteArray} {L M : List ByteArray} (h : IsW c s L) (k : IsW c s M) : L = M :=
  joinL_inj h.ne k.ne h.no k.no (h.eq.symm.trans k.eq)
theorem IsW.size {c : UInt8} {s : ByteArray} {L : List ByteArray} (h : IsW c s L) : L.length ≤ s.size + 1 ∧ ∀ x ∈ L, x.size ≤ s.size := by
  have key : ∀ L : List ByteArray, L.length ≤ (joinL c L).length + 1 ∧ ∀ x ∈ L, x.size ≤ (joinL c L).length := by
    intro L
    induction L with
    | nil => simp
    | cons x L ih =>
      cases L with
      | nil =>
        refine ⟨by simp, fun z hz => ?_⟩
        rw [List.mem_singleton.1 hz, ← bsz]
        simp [joinL, Lib.joinTail]
      | cons y L =>
        rw [joinL_cons]
        obtain ⟨h1, h2⟩ := ih
        refine ⟨by simp at h1 ⊢; omega, ?_⟩
        intro z hz
        rcases List.mem_cons.1 hz with rfl | hz
        · rw [← bsz]; simp
        · have := h2 z hz; simp; omega
  have := key L
  rw [← h.eq, bsz] at this
  exact this
/-- Split's pieces. -/
theorem isW_split (c : UInt8) : ∀ (k : Nat) (s : ByteArray), Lib.countB s ⟨#[c]⟩ = k → IsW c s (Lib.splitB ⟨#[c]⟩ 0 k s)
  | 0, s, h => by
    rw [Lib.splitB_zero]
    refine ⟨by simp, ?_, by simp [joinL, Lib.joinTail]⟩
    intro x hx
    rw [List.mem_singleton.1 hx]
    intro b hb e
    subst e
    have h0 : Lib.count s.data.toList [b] = 0 := h
    rw [Lib.count_one] at h0
    have := List.count_pos_iff.2 hb
    omega
  | k + 1, s, h => by
    rcases Lib.index_spec s.data.toList [c] with ⟨h1, _⟩ | ⟨i, h1, h2, h3, h4⟩
    · have := Lib.countB_miss s ⟨#[c]⟩ h1
      omega
    · have hk : Lib.countB (s.extract (i + 1) s.size) ⟨#[c]⟩ = k := by
        have := Lib.countB_hit s ⟨#[c]⟩ i (Nat.le_refl 1) h1
        have e : (⟨#[c]⟩ : ByteArray).size = 1 := rfl
        rw [e] at this
        omega
      have hc : s.data.toList[i]? = some c := Lib.occAt_head rfl h3
      rw [Lib.splitB_hit _ _ _ _ i h1]
      have e1 : (⟨#[c]⟩ : ByteArray).size = 1 := rfl
      rw [e1, Nat.add_zero]
      have ih := isW_split c k _ hk
      have hi : i < s.data.toList.length := by
        by_cases hlt : i < s.data.toList.length
        · exact hlt
        · rw [List.getElem?_eq_none (by omega)] at hc; cases hc
      have hlow : ∀ b ∈ s.data.toList.take i, b ≠ c := by
        intro b hb e
        obtain ⟨j, hj, he⟩ := List.mem_iff_getElem.1 hb
        rw [List.length_take] at hj
        rw [List.getElem_take] at he
        have hjl : j < i := Nat.lt_of_lt_of_le hj (Nat.min_le_left _ _)
        have := h4 j hjl
        have hjs : j + 1 ≤ s.data.toList.length := by omega
        rw [Lib.occAt_iff_take _ _ _ hjs] at this
        rw [List.drop_eq_getElem_cons (by omega)] at this
        simp [he, e] at this
      refine ⟨by simp, ?_, ?_⟩
      · intro x hx
        rcases List.mem_cons.1 hx with rfl | hx
        · intro b hb; rw [Lib.extract_from_zero] at hb; exact hlow b hb
        · exact ih.no x hx
      · obtain ⟨y, M, hy⟩ : ∃ y M, Lib.splitB ⟨#[c]⟩ 0 k (s.extract (i + 1) s.size) = y :: M := by
          cases hm : Lib.splitB ⟨#[c]⟩ 0 k (s.extract (i + 1) s.size) with
          | nil => exact absurd hm ih.ne
          | cons y M => exact ⟨y, M, rfl⟩
        rw [hy, joinL_cons, ← hy, ← ih.eq, Lib.extract_from_zero, Lib.extract_to_end]
        have hg : s.data.toList[i] = c := by rw [List.getElem?_eq_getElem hi] at hc; exact Option.some.inj hc
        conv => lhs; rw [← List.take_append_drop i s.data.toList, List.drop_eq_getElem_cons hi, hg]
/-- The loop of Cut: D are the pieces so far, the next begins at m, the loop is at i. -/
def flatC (c : UInt8) (D : List ByteArray) : List UInt8 := (D.map (fun d => d.data.toList ++ [c])).flatten
theorem flatC_join (c : UInt8) (x : ByteArray) : ∀ D : List ByteArray, flatC c D ++ x.data.toList = joinL c (D ++ [x])
  | [] => by simp [flatC, joinL, Lib.joinTail]
  | [d] => by simp [flatC, joinL, Lib.joinTail]
  | d :: e :: D => by
    have ih := flatC_join c x (e :: D)
    have h1 : flatC c (d :: e :: D) = d.data.toList ++ c :: flatC c (e :: D) := by simp [flatC]
    have h2 : d :: e :: D ++ [x] = d :: e :: (D ++ [x]) := rfl
    have h3 : e :: D ++ [x] = e :: (D ++ [x]) := rfl
    rw [h1, h2, joinL_cons, ← h3, ← ih]
    simp
structure CutSt (c : UInt8) (s : ByteArray) (D : List ByteArray) (m i : Nat) : Prop where
  le : m ≤ i
  top : i ≤ s.size
  eq : s.data.toList.take m = flatC c D
  no : ∀ d ∈ D, NoC c d
  rest : ∀ j, m ≤ j → j < i → s.data.toList[j]? ≠ some c
theorem CutSt.start (c : UInt8) (s : ByteArray) : CutSt c s [] 0 0 := ⟨Nat.le_refl _, Nat.zero_le _, rfl, by simp, fun _ _ h => absurd h (Nat.not_lt_zero _)⟩
theorem CutSt.next {c : UInt8} {s : ByteArray} {D : List ByteArray} {m i : Nat} (h : CutSt c s D m i) (hi : i < s.size) (hc : s[i] ≠ c) : CutSt c s D m (i + 1) :=
  ⟨by have := h.le; omega, hi, h.eq, h.no, fun j h1 h2 => by
    by_cases e : j = i
    · subst e
      rw [List.getElem?_eq_getElem (by rw [bsz]; exact hi)]
      intro e; exact hc (Option.some.inj e)
    · exact h.rest j h1 (by omega)⟩
theorem extract_list (s : ByteArray) (a b : Nat) : (s.extract a b).data.toList = (s.data.toList.take b).drop a := by
  rw [Lib.extract_data]; simp [List.drop_take]
theorem CutSt.piece {c : UInt8} {s : ByteArray} {D : List ByteArray} {m i : Nat} (h : CutSt c s D m i) : NoC c (s.extract m i) := by
  intro b hb e
  rw [extract_list] at hb
  obtain ⟨j, hj, he⟩ := List.mem_iff_getElem.1 hb
  rw [List.getElem_drop, List.getElem_take] at he
  rw [List.length_drop, List.length_take] at hj
  refine h.rest (m + j) (by omega) (by omega) ?_
  rw [List.getElem?_eq_getElem (by omega), he, e]
theorem CutSt.cut {c : UInt8} {s : ByteArray} {D : List ByteArray} {m i : Nat} (h : CutSt c s D m i) (hi : i < s.size) (hc : s[i] = c) : CutSt c s (D ++ [s.extract m i]) (i + 1) (i + 1) := by
  have hi' : i < s.data.toList.length := by rw [bsz]; exact hi
  refine ⟨Nat.le_refl _, hi, ?_, ?_, fun j h1 h2 => absurd h2 (by omega)⟩
  · have hg : s.data.toList[i] = c := hc
    have e1 : s.data.toList.take (i + 1) = s.data.toList.take i ++ [c] := by rw [List.take_succ_eq_append_getElem hi', hg]
    have e2 : s.data.toList.take i = s.data.toList.take m ++ (s.extract m i).data.toList := by
      rw [extract_list]
      conv => lhs; rw [← List.take_append_drop m (s.data.toList.take i), List.take_take, Nat.min_eq_left h.le]
    rw [e1, e2, h.eq]
    simp [flatC]
  · intro d hd
    rcases List.mem_append.1 hd with h1 | h1
    · exact h.no d h1
    · rw [List.mem_singleton.1 h1]; exact h.piece
theorem CutSt.done {c : UInt8} {s : ByteArray} {D : List ByteArray} {m : Nat} (h : CutSt c s D m s.size) : IsW c s (D ++ [s.extract m s.size]) := by
  refine ⟨by simp, ?_, ?_⟩
  · intro d hd
    rcases List.mem_append.1 hd with h1 | h1
    · exact h.no d h1
    · rw [List.mem_singleton.1 h1]; exact h.piece
  · rw [← flatC_join, ← h.eq, extract_list]
    have : s.data.toList.take s.size = s.data.toList := List.take_of_length_le (by rw [bsz]; exact Nat.le_refl _)
    rw [this, List.take_append_drop]
theorem CutSt.count {c : UInt8} {s : ByteArray} {D : List ByteArray} {m i : Nat} (h : CutSt c s D m i) : D.length ≤ m := by
  have : ∀ D : List ByteArray, D.length ≤ (flatC c D).length := by
    intro D
    induction D with
    | nil => simp
    | cons d D ih =>
      have : flatC c (d :: D) = d.data.toList ++ c :: flatC c D := by simp [flatC]
      rw [this]; simp; omega
  have h1 := this D
  rw [← h.eq, List.length_take] at h1
  omega
end Go.Proofs.YtbbihfafkpniiaaGreatDoor
/- Slices of numbers that came in. -/
namespace Go.Proofs.YtbbihfafkpniiaaGreatDoor
open Go.ChangeShapes Go.WideShapes Go.RowKit
/-- The slice at A reads as the numbers zs; it lies below block B. -/
def IntsAt (w : World) (B : Nat) (A : Option Addr) (zs : List Int) : Prop := ∀ k (hk : k < zs.length), ∃ ad : Addr, A = some ad ∧ ad.block < B ∧ w.cell? (ad.add k) = some (.int .i64 (zs[k]'hk))
theorem ints_block (a : Addr) (n : Nat) : (a.add n).block = a.block := by unfold Addr.add; split <;> rfl
theorem IntsAt.keep {w w' : World} {B : Nat} {A : Option Addr} {zs : List Int} (h : IntsAt w B A zs) (hb : Below B w w') : IntsAt w' B A zs := fun k hk => by
  obtain ⟨ad, e, hl, hc⟩ := h k hk
  exact ⟨ad, e, hl, (hb.cell (by rw [ints_block]; exact hl)).trans hc⟩
theorem IntsAt.more {w : World} {B B' : Nat} {A : Option Addr} {zs : List Int} (h : IntsAt w B A zs) (hB : B ≤ B') : IntsAt w B' A zs := fun k hk => by
  obtain ⟨ad, e, hl, hc⟩ := h k hk
  exact ⟨ad, e, by omega, hc⟩
theorem ints_arg2 {H : Type} {enc : TypeId × Value → H} {P : Program} {W : World} {base : Nat} {t e : TypeId} {v : Value} {d : DataW H} {p : List MemPlace} (ht : P.underlying t = some (.slice e)) (he : P.underlying e = some (.int .i64)) (hc : P.cellsOf e = 1)
    (hv : Value.okWide P W .any base t v) (h : DataW.Trod enc P W 0 (fun _ => true) true t v d p) (hlt : ∀ x ∈ p, x.block < W.heap.size) :
    ∃ (A : Option Addr) (c : Nat) (zs : List Int), v = .slice A zs.length c ∧ zs.length ≤ maxLen ∧ IntsAt W W.heap.size A zs ∧ ∀ z ∈ zs, -9223372036854775808 ≤ z ∧ z ≤ 9223372036854775807 := by
  obtain ⟨a0, len, cap, rfl⟩ := okWide_slice ht hv
  obtain ⟨fuel, hf⟩ := h
  rcases open_ints ht he hc hf with ⟨hcs, hx⟩ | ⟨a, len', cap', zs, hcs, _, hl, hm, hz, hx, hcell, hwz⟩
  · simp [Value.cells] at hcs
    obtain ⟨rfl, rfl, rfl⟩ := hcs
    exact ⟨none, 0, [], rfl, by simp, fun k hk => by simp at hk, by simp⟩
  · simp [Value.cells] at hcs
    obtain ⟨rfl, rfl, rfl⟩ := hcs
    simp only [if_true] at hz
    have hlz : (zs.take len).length = len := by rw [List.length_take]; omega
    refine ⟨some a, cap, zs.take len, by rw [hlz], by rw [hlz]; omega, fun k hk => ?_, fun z hz' => bounds_i64 (hwz z (List.mem_of_mem_take hz'))⟩
    have hkz : k < zs.length := by rw [hlz] at hk; omega
    refine ⟨a, rfl, ?_, ?_⟩
    · injection hx with _ hp
      have hmem : MemPlace.cell a.block (a.off + 0) ∈ p := by
        rw [hp]; unfold MemPlace.row; simp; omega
      exact hlt _ hmem
    · rw [hcell k hkz, List.getElem_take, List.getD_eq_getElem?_getD, List.getElem?_eq_getElem hkz]; rfl
end Go.Proofs.YtbbihfafkpniiaaGreatDoor
/- Of, of the program and of the reference. -/
namespace Go.Proofs.YtbbihfafkpniiaaGreatDoor
open Go.RowKit
def orN (zs : List Int) : Nat := zs.foldl (fun m z => m ||| 2 ^ z.toNat) 0
def outB (z : Int) : Bool := decide (z < 0) || decide (32 ≤ z)
def ofM (zs : List Int) : Int := if zs.any outB then 0 else (orN zs : Int)
def ofE (zs : List Int) : Int := if zs.any outB then 10 else 0
theorem orN_snoc (zs : List Int) (z : Int) : orN (zs ++ [z]) = orN zs ||| 2 ^ z.toNat := by simp [orN, List.foldl_append]
theorem or_lt {m n : Nat} (hm : m < 4294967296) (hn : n < 32) : m ||| 2 ^ n < 4294967296 := by
  have h1 : m < 2 ^ 32 := hm
  have h2 : 2 ^ n < 2 ^ 32 := Nat.pow_lt_pow_right (by omega) hn
  exact Nat.or_lt_two_pow h1 h2
theorem orN_lt : ∀ (zs : List Int) (m : Nat), m < 4294967296 → zs.any outB = false → zs.foldl (fun m z => m ||| 2 ^ z.toNat) m < 4294967296
  | [], m, hm, _ => hm
  | z :: zs, m, hm, h => by
    simp only [List.any_cons, Bool.or_eq_false_iff] at h
    have hz : z.toNat < 32 := by have := h.1; unfold outB at this; simp at this; omega
    exact orN_lt zs _ (or_lt hm hz) h.2
theorem any_at (zs : List Int) (k : Nat) (h : k < zs.length) (ho : outB zs[k] = true) : zs.any outB = true := List.any_eq_true.2 ⟨_, List.getElem_mem h, ho⟩
theorem any_next (zs : List Int) (k : Nat) (h : k < zs.length) (hn : (zs.take k).any outB = false) (ho : outB zs[k] = false) : (zs.take (k + 1)).any outB = false := by
  rw [List.take_succ_eq_append_getElem h, List.any_append, hn]; simp [ho]
theorem orN_next (zs : List Int) (k : Nat) (h : k < zs.length) : orN (zs.take (k + 1)) = orN (zs.take k) ||| 2 ^ zs[k].toNat := by
  rw [List.take_succ_eq_append_getElem h, orN_snoc]
theorem or_bits {m : Nat} {z : Int} (hm : m < 4294967296) (_h0 : 0 ≤ z) (h1 : z < 32) : bits .or .u64 (m : Int) (IntKind.u64.wrap (2 ^ z.toNat)) = ((m ||| 2 ^ z.toNat : Nat) : Int) := by
  have h3 : 2 ^ z.toNat < 2 ^ 32 := Nat.pow_lt_pow_right (by omega) (by omega)
  have h2 : 2 ^ z.toNat < 4294967296 := h3
  clear h3
  have e : ((2 : Int) ^ z.toNat) = ((2 ^ z.toNat : Nat) : Int) := by rw [Int.natCast_pow]; rfl
  rw [e]
  generalize 2 ^ z.toNat = q at *
  rw [IntKind.wrap_u64, Int.emod_eq_of_lt (by omega) (by omega), u64_or_nat m q (by omega) (by omega)]
theorem tupM {a b : Int} {m n : Int} (h : a = b) (k : m = n) : Ending.returned (.tuple #[.int .u64 a, .int .i64 m]) = .returned (.tuple #[.int .u64 b, .int .i64 n]) := by rw [h, k]
set_option maxHeartbeats 400000 in
theorem rof (w : World) (B : Nat) (A : Option Addr) (zs : List Int) (c : Nat) (hz : IntsAt w B A zs) (hl : zs.length ≤ maxLen) :
    Calls Tryz.prog 119 #[.slice A zs.length c] w fun e w' => e = .returned (.tuple #[.int .u64 (ofM zs), .int .i64 (ofE zs)]) ∧ w = w' := by
  unfold maxLen at hl
  have HZ := Lib.hid hz
  clear hz
  go_enter Tryz.func119, Tryz.ntmps119
  go_wp2
  go_loop [4, 5] (fun v i => ∃ k : Nat, k ≤ zs.length ∧ i = .int .i64 k ∧ v = .int .u64 (orN (zs.take k) : Int) ∧ Hid ((zs.take k).any outB = false)) (fun _ i => zs.length - (intOf i).toNat)
  case atStart => exact ⟨0, Nat.zero_le _, rfl, rfl, rfl⟩
  case round =>
    obtain ⟨k, hk, rfl, rfl, hno⟩ := hrel
    by_cases hlt : k < zs.length
    · obtain ⟨ad, rfl, hadb, hc⟩ := HZ.out k hlt
      by_cases ho : outB zs[k] = true
      · have HA := Lib.hid (any_at zs k hlt ho)
        have hout : zs[k] < 0 ∨ 32 ≤ zs[k] := by unfold outB at ho; simp at ho; omega
        clear ho
        generalize zs[k] = z at *
        rcases hout with h | h
        all_goals
          go_wp2
          go_ret2
          exact ⟨tupM (by rw [ofM, HA.out]; rfl) (by rw [ofE, HA.out]; rfl), rfl⟩
      · have HN := Lib.hid (any_next zs k hlt hno.out (by simpa using ho))
        have HO := Lib.hid (orN_next zs k hlt)
        have hin : 0 ≤ zs[k] ∧ zs[k] < 32 := by unfold outB at ho; simp at ho; omega
        have HB := Lib.hid (or_bits (orN_lt (zs.take k) 0 (by omega) hno.out) hin.1 hin.2)
        obtain ⟨i0, i1⟩ := hin
        clear ho
        generalize zs[k] = z at *
        go_wp2
        go_round
        case rel => exact ⟨k + 1, by omega, by go_num, congrArg (Value.int .u64) (by rw [HO.out]; exact HB.out), HN⟩
        case measure => simp [intOf]; omega
    · obtain rfl : k = zs.length := by omega
      rw [List.take_length] at hno
      go_wp2
      go_ret2
      exact ⟨tupM (by rw [ofM, hno.out]; rfl) (by rw [ofE, hno.out]; rfl), rfl⟩
end Go.Proofs.YtbbihfafkpniiaaGreatDoor
/- Has, of the program and of the reference; Valid. -/
namespace Go.Proofs.YtbbihfafkpniiaaGreatDoor
open Go.RowKit
/-- The call n is in the set m. -/
def hasB (m : Nat) (n : Int) : Bool := decide (0 ≤ n) && decide (n < 32) && m.testBit n.toNat
theorem bit_and (m : Nat) (k : Nat) (hm : m < 18446744073709551616) : bits .and .u64 ((m : Int) / 2 ^ k) 1 = if m.testBit k then 1 else 0 := by
  have e : (m : Int) / 2 ^ k = ((m / 2 ^ k : Nat) : Int) := by rw [Int.natCast_ediv, Int.natCast_pow]; rfl
  have hlt : m / 2 ^ k < 18446744073709551616 := Nat.lt_of_le_of_lt (Nat.div_le_self _ _) hm
  rw [e, show (1 : Int) = ((1 : Nat) : Int) from rfl, u64_and_nat _ 1 hlt (by omega)]
  rw [Nat.and_one_is_mod, Nat.testBit_eq_decide_div_mod_eq]
  by_cases h : m / 2 ^ k % 2 = 1
  · simp [h]
  · have : m / 2 ^ k % 2 = 0 := by omega
    simp [this]
set_option maxHeartbeats 400000 in
theorem vhas (m : Nat) (n : Int) (w : World) (hm : m < 18446744073709551616) :
    Calls Tryz.prog 68 #[.int .u64 (m : Int), .int .i64 n] w fun e w' => e = .returned (.bool (hasB m n)) ∧ w = w' := by
  have HB := Lib.hid (bit_and m n.toNat hm)
  clear hm
  by_cases h0 : 0 ≤ n
  · by_cases h1 : n < 32
    · have HH := Lib.hid (show hasB m n = m.testBit n.toNat by unfold hasB; simp [h0, h1])
      go_enter Tryz.func68, Tryz.ntmps68
      go_wp2
      go_ret
      refine ⟨retB ?_, rfl⟩
      rw [HH.out, HB.out]
      cases m.testBit n.toNat <;> rfl
    · have H := Lib.hid (show hasB m n = false by unfold hasB; simp; omega)
      go_enter Tryz.func68, Tryz.ntmps68
      go_wp2
      go_ret
      exact ⟨retB H.out.symm, rfl⟩
  · have H := Lib.hid (show hasB m n = false by unfold hasB; simp; omega)
    go_enter Tryz.func68, Tryz.ntmps68
    go_wp2
    go_ret
    exact ⟨retB H.out.symm, rfl⟩
set_option maxHeartbeats 400000 in
theorem rhas (m : Nat) (n : Int) (w : World) (hm : m < 18446744073709551616) :
    Calls Tryz.prog 100 #[.int .u64 (m : Int), .int .i64 n] w fun e w' => e = .returned (.bool (hasB m n)) ∧ w = w' := by
  have HB := Lib.hid (bit_and m n.toNat hm)
  clear hm
  by_cases h0 : 0 ≤ n
  · by_cases h1 : n < 32
    · have HH := Lib.hid (show hasB m n = m.testBit n.toNat by unfold hasB; simp [h0, h1])
      go_enter Tryz.func100, Tryz.ntmps100
      go_wp2
      go_ret
      refine ⟨retB ?_, rfl⟩
      rw [HH.out, HB.out]
      cases m.testBit n.toNat <;> rfl
    · have H := Lib.hid (show hasB m n = false by unfold hasB; simp; omega)
      go_enter Tryz.func100, Tryz.ntmps100
      go_wp2
      go_ret
      exact ⟨retB H.out.symm, rfl⟩
  · have H := Lib.hid (show hasB m n = false by unfold hasB; simp; omega)
    go_enter Tryz.func100, Tryz.ntmps100
    go_wp2
    go_ret
    exact ⟨retB H.out.symm, rfl⟩
def validB (m : Nat) : Bool := decide (m < 4294967296)
theorem high_bits (i : Nat) : (18446744069414584320 : Nat).testBit i = (decide (32 ≤ i) && decide (i < 64)) := by
  have e : (18446744069414584320 : Nat) = 2 ^ 32 * (2 ^ 32 - 1) := rfl
  rw [e, Nat.testBit_two_pow_mul, Nat.testBit_two_pow_sub_one]
  by_cases h : 32 ≤ i
  · simp [h]; omega
  · simp [h]
theorem valid_and (m : Nat) (hm : m < 18446744073709551616) : (bits .andNot .u64 (m : Int) 4294967295 == 0) = validB m := by
  rw [show (4294967295 : Int) = ((4294967295 : Nat) : Int) from rfl, u64_andNot_nat m 4294967295 hm (by omega)]
  unfold validB
  by_cases h : m < 4294967296
  · have : m &&& (18446744073709551615 - 4294967295) = 0 := by
      apply Nat.eq_of_testBit_eq
      intro i
      rw [Nat.testBit_and, show (18446744073709551615 - 4294967295 : Nat) = 18446744069414584320 from rfl, high_bits, Nat.zero_testBit]
      by_cases hi : 32 ≤ i
      · rw [Nat.testBit_lt_two_pow (Nat.lt_of_lt_of_le h (show 2 ^ 32 ≤ 2 ^ i from Nat.pow_le_pow_right (by omega) hi))]; rfl
      · simp; omega
    rw [this]; simp [h]
  · have hne : m &&& (18446744073709551615 - 4294967295) ≠ 0 := by
      intro h0
      obtain ⟨i, hi, hb⟩ := Nat.exists_ge_and_testBit_of_ge_two_pow (n := 32) (x := m) (by omega)
      have := congrArg (Nat.testBit · i) h0
      simp only [Nat.testBit_and, Nat.zero_testBit, hb] at this
      rw [show (18446744073709551615 - 4294967295 : Nat) = 18446744069414584320 from rfl, high_bits] at this
      have hi64 : i < 64 := by
        rcases Nat.lt_or_ge i 64 with k | k
        · exact k
        · rw [Nat.testBit_lt_two_pow (Nat.lt_of_lt_of_le hm (show 2 ^ 64 ≤ 2 ^ i from Nat.pow_le_pow_right (by omega) k))] at hb; cases hb
      simp at this; omega
    generalize m &&& (18446744073709551615 - 4294967295) = q at *
    simp [h, hne]
set_option maxHeartbeats 400000 in
theorem vvalid (m : Nat) (w : World) (hm : m < 18446744073709551616) :
    Calls Tryz.prog 47 #[.int .u64 (m : Int)] w fun e w' => e = .returned (.bool (validB m)) ∧ w = w' := by
  have HV := Lib.hid (valid_and m hm)
  clear hm
  go_enter Tryz.func47, Tryz.ntmps47
  go_wp2
  go_ret
  exact ⟨retB HV.out, rfl⟩
theorem valid_shr (m : Nat) : ((m : Int) / 4294967296 == 0) = validB m := by
  unfold validB
  by_cases h : m < 4294967296
  · simp [h]; omega
  · simp [h]; omega
set_option maxHeartbeats 400000 in
theorem rvalid (m : Nat) (w : World) :
    Calls Tryz.prog 56 #[.int .u64 (m : Int)] w fun e w' => e = .returned (.bool (validB m)) ∧ w = w' := by
  have HV := Lib.hid (valid_shr m)
  go_enter Tryz.func56, Tryz.ntmps56
  go_wp2
  go_ret
  exact ⟨retB HV.out, rfl⟩
end Go.Proofs.YtbbihfafkpniiaaGreatDoor
/- The members of a set, their runs, and the text of a set: plain facts. -/
namespace Go.Proofs.YtbbihfafkpniiaaGreatDoor
def hasN (m n : Nat) : Bool := decide (n < 32) && m.testBit n
theorem hasB_nat (m n : Nat) : hasB m (n : Int) = hasN m n := by
  unfold hasB hasN
  by_cases h : n < 32
  · simp [h]; omega
  · simp [h]; omega
/-- The members from k on. -/
def memF (m k : Nat) : List Nat := (List.range' k (32 - k)).filter (hasN m)
theorem memF_step (m k : Nat) (h : k < 32) : memF m k = if hasN m k then k :: memF m (k + 1) else memF m (k + 1) := by
  unfold memF
  rw [show 32 - k = (32 - (k + 1)) + 1 by omega, List.range'_succ, List.filter_cons]
theorem memF_end (m k : Nat) (h : 32 ≤ k) : memF m k = [] := by
  unfold memF; rw [show 32 - k = 0 by omega]; rfl
theorem memF_no (m k : Nat) (h : hasN m k = false) : memF m k = memF m (k + 1) := by
  by_cases hk : k < 32
  · rw [memF_step m k hk, h]; rfl
  · rw [memF_end m k (by omega), memF_end m (k + 1) (by omega)]
theorem hasN_lt {m k : Nat} (h : hasN m k = true) : k < 32 := by unfold hasN at h; simp at h; exact h.1
theorem memF_yes (m k : Nat) (h : hasN m k = true) : memF m k = k :: memF m (k + 1) := by
  rw [memF_step m k (hasN_lt h), h]; rfl
theorem memF_ge (m k : Nat) : ∀ x ∈ memF m k, k ≤ x ∧ x < 32 := by
  intro x hx
  unfold memF at hx
  have := List.mem_range'_1.1 (List.mem_filter.1 hx).1
  omega
/-- The runs of an ascending list. -/
def grp : List Nat → List (Nat × Nat)
  | [] => []
  | a :: l => match grp l with
    | [] => [(a, a)]
    | (b, c) :: r => if b = a + 1 then (a, c) :: r else (a, a) :: (b, c) :: r
theorem grp_head {l : List Nat} {b c : Nat} {r : List (Nat × Nat)} (h : grp l = (b, c) :: r) : b ∈ l := by
  cases l with
  | nil => cases h
  | cons a l =>
    unfold grp at h
    split at h
    · injection h with h _; injection h with h _; subst h; exact List.mem_cons_self
    · split at h
      · injection h with h _; injection h with h _; subst h; exact List.mem_cons_self
      · injection h with h _; injection h with h _; subst h; exact List.mem_cons_self
theorem grp_alone (a : Nat) (l : List Nat) (h : ∀ x ∈ l, a + 2 ≤ x) : grp (a :: l) = (a, a) :: grp l := by
  show (match grp l with | [] => [(a, a)] | (b, c) :: r => if b = a + 1 then (a, c) :: r else (a, a) :: (b, c) :: r) = _
  cases hg : grp l with
  | nil => rfl
  | cons p r =>
    obtain ⟨b, c⟩ := p
    have := h b (grp_head hg)
    simp only
    rw [if_neg (by omega)]
theorem grp_join (a c : Nat) (l : List Nat) (r : List (Nat × Nat)) (h : grp l = (a + 1, c) :: r) : grp (a :: l) = (a, c) :: r := by
  show (match grp l with | [] => [(a, a)] | (b, c) :: r => if b = a + 1 then (a, c) :: r else (a, a) :: (b, c) :: r) = _
  rw [h]; simp
theorem grp_run (m : Nat) : ∀ (d a b : Nat), b = a + d → (∀ i, a ≤ i → i ≤ b → hasN m i = true) → hasN m (b + 1) = false → grp (memF m a) = (a, b) :: grp (memF m (b + 1))
  | 0, a, b, hb, hall, hno => by
    obtain rfl : b = a := by omega
    rw [memF_yes m b (hall b (Nat.le_refl _) (Nat.le_refl _))]
    refine grp_alone b _ fun x hx => ?_
    rw [memF_no m (b + 1) hno] at hx
    exact (memF_ge m _ x hx).1
  | d + 1, a, b, hb, hall, hno => by
    rw [memF_yes m a (hall a (Nat.le_refl _) (by omega))]
    exact grp_join a b _ _ (grp_run m d (a + 1) b (by omega) (fun i h1 h2 => hall i (by omega) h2) hno)
def rtext (p : Nat × Nat) : List UInt8 := if p.1 < p.2 then Lib.decDigits p.1 ++ 45 :: Lib.decDigits p.2 else Lib.decDigits p.1
def rtextS (p : Nat × Nat) : ByteArray := ⟨(rtext p).toArray⟩
theorem rtextS_one (a : Nat) : rtextS (a, a) = decS a := by unfold rtextS rtext decS; simp
theorem rtextS_two (a b : Nat) (h : a < b) : rtextS (a, b) = decS a ++ (⟨#[45]⟩ ++ decS b) := by
  unfold rtextS rtext decS; rw [if_pos h]
  apply ByteArray.ext; simp
theorem dec_len2 (n : Nat) (h : n < 100) : (Lib.decDigits n).length ≤ 2 := by rw [Lib.decDigits_length]; exact nd_le 1 n h
theorem decS_size2 (n : Nat) (h : n < 100) : (decS n).size ≤ 2 := by
  have : (decS n).size = (Lib.decDigits n).length := by show (Lib.decDigits n).toArray.size = _; simp
  rw [this]; exact dec_len2 n h
/-- The text of a set. -/
def maskS (m : Nat) : ByteArray :=
  if m % 4294967296 = 4294967295 then ⟨#[97, 108, 108]⟩ else if m % 4294967296 = 0 then ⟨#[110, 111, 110, 101]⟩
  else ⟨(Lib.join ((grp (memF m 0)).map rtext) [44]).toArray⟩
end Go.Proofs.YtbbihfafkpniiaaGreatDoor
/- Reading the text of a set: plain facts, with no program in sight. -/
namespace Go.Proofs.YtbbihfafkpniiaaGreatDoor
/-- The first byte c of a text. -/
theorem ib_spec (c : UInt8) : ∀ l : List UInt8, (Lib.indexByte l c = -1 ∧ ∀ x ∈ l, x ≠ c) ∨ (∃ i : Nat, Lib.indexByte l c = (i : Int) ∧ i < l.length ∧ l = l.take i ++ c :: l.drop (i + 1) ∧ ∀ x ∈ l.take i, x ≠ c)
  | [] => .inl ⟨rfl, by simp⟩
  | b :: l => by
    by_cases h : b = c
    · subst h
      exact .inr ⟨0, by simp [Lib.indexByte], by simp, by simp, by simp⟩
    · have hb : (b == c) = false := by simpa using h
      rcases ib_spec c l with ⟨h1, h2⟩ | ⟨i, h1, h2, h3, h4⟩
      · refine .inl ⟨by simp [Lib.indexByte, hb, h1], ?_⟩
        intro x hx
        rcases List.mem_cons.1 hx with rfl | hx
        · exact h
        · exact h2 x hx
      · have hi : ((i : Int) == -1) = false := by rw [beq_eq_false_iff_ne]; omega
        refine .inr ⟨i + 1, by simp [Lib.indexByte, hb, h1, hi], by simp; omega, ?_, ?_⟩
        · simp only [List.take_succ_cons, List.drop_succ_cons, List.cons_append]
          rw [← h3]
        · intro x hx
          rw [List.take_succ_cons] at hx
          rcases List.mem_cons.1 hx with rfl | hx
          · exact h
          · exact h4 x hx
def digC (c : UInt8) : Bool := decide (48 ≤ c.toNat) && decide (c.toNat ≤ 57)
def valN (l : List UInt8) : Nat := l.foldl (fun v c => 10 * v + (c.toNat - 48)) 0
theorem valN_snoc (l : List UInt8) (c : UInt8) : valN (l ++ [c]) = 10 * valN l + (c.toNat - 48) := by simp [valN, List.foldl_append]
theorem valN_fold (l : List UInt8) : ∀ (v : Nat), l.all digC = true → l.foldl (fun v c => 10 * v + (c.toNat - 48)) v < (v + 1) * 10 ^ l.length := by
  induction l with
  | nil => intro v _; simp
  | cons c l ih =>
    intro v h
    simp only [List.all_cons, Bool.and_eq_true] at h
    have h1 := h.1
    unfold digC at h1
    simp at h1
    have := ih (10 * v + (c.toNat - 48)) h.2
    simp only [List.foldl_cons, List.length_cons]
    have e : (10 * v + (c.toNat - 48) + 1) * 10 ^ l.length ≤ (v + 1) * 10 ^ (l.length + 1) := by
      rw [Nat.pow_succ, Nat.mul_comm (10 ^ l.length) 10, ← Nat.mul_assoc]
      exact Nat.mul_le_mul_right _ (by omega)
    omega
theorem valN_le (l : List UInt8) (h : l.all digC = true) (hl : l.length ≤ 4) : valN l ≤ 9999 := by
  have h1 := valN_fold l 0 h
  have h2 : 10 ^ l.length ≤ 10 ^ 4 := Nat.pow_le_pow_right (by omega) hl
  have e : (10 : Nat) ^ 4 = 10000 := by decide
  rw [e] at h2
  unfold valN
  omega
/-- The first part of the test: the length, and the first digit. -/
def shapeN (l : List UInt8) : Bool := decide (1 ≤ l.length) && decide (l.length ≤ 4) && !(l.head? == some 48 && decide (1 < l.length))
/-- A decimal number of one to four digits, without leading zeros. -/
def num4 (s : ByteArray) : Option Nat := if shapeN s.data.toList && s.data.toList.all digC then some (valN s.data.toList) else none
theorem num4_le {s : ByteArray} {n : Nat} (h : num4 s = some n) : n ≤ 9999 := by
  unfold num4 at h
  split at h
  · rename_i hc
    simp only [Bool.and_eq_true] at hc
    have h2 := hc.1
    unfold shapeN at h2
    simp only [Bool.and_eq_true, decide_eq_true_eq] at h2
    have := valN_le _ hc.2 h2.1.2
    have e := Option.some.inj h
    omega
  · cases h
theorem num4_no (s : ByteArray) (c : UInt8) (h : c ∈ s.data.toList) (hc : digC c = false) : num4 s = none := by
  unfold num4
  have : s.data.toList.all digC = false := by
    rw [← Bool.not_eq_true]; intro ha
    have := List.all_eq_true.1 ha c h
    rw [hc] at this; cases this
  rw [this]; simp
/-- The pieces of a text that is cut at each byte c. -/
def piecesOf (c : UInt8) (s : ByteArray) : List ByteArray := Lib.splitB ⟨#[c]⟩ 0 (Lib.countB s ⟨#[c]⟩) s
theorem isW_pieces (c : UInt8) (s : ByteArray) : IsW c s (piecesOf c s) := isW_split c _ s rfl
theorem pieces_of {c : UInt8} {s : ByteArray} {L : List ByteArray} (h : IsW c s L) : piecesOf c s = L := (isW_pieces c s).unique h
theorem pieces_one {c : UInt8} {s : ByteArray} (h : ∀ x ∈ s.data.toList, x ≠ c) : piecesOf c s = [s] :=
  pieces_of ⟨by simp, fun x hx => by rw [List.mem_singleton.1 hx]; exact h, by simp [joinL, Lib.joinTail]⟩
theorem isW_cons {c : UInt8} {s a b : ByteArray} {L : List ByteArray} (h : s.data.toList = a.data.toList ++ c :: b.data.toList) (ha : NoC c a) (hb : IsW c b L) : IsW c s (a :: L) := by
  obtain ⟨h1, h2, h3⟩ := hb
  cases L with
  | nil => exact absurd rfl h1
  | cons y M =>
    refine ⟨by simp, ?_, by rw [joinL_cons, ← h3, h]⟩
    intro x hx
    rcases List.mem_cons.1 hx with rfl | hx
    · exact ha
    · exact h2 x hx
theorem isW_flat {c : UInt8} : ∀ {D : List ByteArray} {s r : ByteArray} {L : List ByteArray}, flatC c D ++ r.data.toList = s.data.toList → (∀ d ∈ D, NoC c d) → IsW c r L → IsW c s (D ++ L)
  | [], s, r, L, h, _, k => by
    have : r = s := data_inj (by simpa [flatC] using h)
    rw [← this]; exact k
  | d :: D, s, r, L, h, hd, k => by
    have e : flatC c (d :: D) = d.data.toList ++ c :: flatC c D := by simp [flatC]
    have h2 := isW_flat (D := D) (s := ⟨(flatC c D ++ r.data.toList).toArray⟩) (r := r) (L := L) (by simp) (fun x hx => hd x (List.mem_cons_of_mem _ hx)) k
    refine isW_cons (b := ⟨(flatC c D ++ r.data.toList).toArray⟩) ?_ (hd d List.mem_cons_self) h2
    rw [← h, e]; simp
theorem flatC_snoc (c : UInt8) (D : List ByteArray) (x : ByteArray) : flatC c (D ++ [x]) = flatC c D ++ (x.data.toList ++ [c]) := by simp [flatC]
/-- An item N or N-M. -/
def spanL : List ByteArray → Option (Nat × Nat)
  | [x] => (num4 x).map fun n => (n, n)
  | [x, y] => match num4 x, num4 y with
    | some a, some b => if a ≤ b then some (a, b) else none
    | _, _ => none
  | _ => none
def spanS (s : ByteArray) : Option (Nat × Nat) := spanL (piecesOf 45 s)
theorem spanL_le {L : List ByteArray} {a b : Nat} (h : spanL L = some (a, b)) : a ≤ b ∧ b ≤ 9999 := by
  unfold spanL at h
  split at h
  · rename_i x
    cases hx : num4 x with
    | none => rw [hx] at h; cases h
    | some n =>
      rw [hx] at h
      have := num4_le hx
      simp at h
      omega
  · rename_i x y
    split at h
    · rename_i p q hp hq
      split at h
      · injection h with h; injection h with h1 h2
        have := num4_le hq
        omega
      · cases h
    · cases h
  · cases h
/-- The members of an item, added to a set. -/
def orR (m a b : Nat) : Nat := (List.range' a (b + 1 - a)).foldl (fun m n => m ||| 2 ^ n) m
def greatB (x : ByteArray) : Bool := match spanS x with
  | some (_, b) => decide (32 ≤ b)
  | none => false
def badB (x : ByteArray) : Bool := (spanS x).isNone
def stepM (m : Nat) (x : ByteArray) : Nat := match spanS x with
  | some (a, b) => if 32 ≤ b then m else orR m a b
  | none => m
def accM (L : List ByteArray) : Nat := L.foldl stepM 0
theorem accM_snoc (L : List ByteArray) (x : ByteArray) : accM (L ++ [x]) = stepM (accM L) x := by simp [accM, List.foldl_append]
def txAll : ByteArray := ⟨#[97, 108, 108]⟩
def txNone : ByteArray := ⟨#[110, 111, 110, 101]⟩
def readL (L : List ByteArray) : Nat × Int := if L.any badB then (0, 11) else if L.any greatB then (0, 10) else (accM L, 0)
def readM (s : ByteArray) : Nat × Int := if s = txAll then (4294967295, 0) else if s = txNone then (0, 0) else readL (piecesOf 44 s)
theorem orR_succ (m a k : Nat) (h : a ≤ k) : orR m a k = (List.range' a (k - a)).foldl (fun m n => m ||| 2 ^ n) m ||| 2 ^ k := by
  unfold orR
  rw [show k + 1 - a = (k - a) + 1 by omega, List.range'_concat, List.foldl_append]
  simp
  congr 2; omega
theorem or_pow_lt {m n : Nat} (hm : m < 4294967296) (hn : n < 32) : m ||| 2 ^ n < 4294967296 := or_lt hm hn
theorem orF_lt : ∀ (l : List Nat) (m : Nat), m < 4294967296 → (∀ x ∈ l, x < 32) → l.foldl (fun m n => m ||| 2 ^ n) m < 4294967296
  | [], m, h, _ => h
  | x :: l, m, h, k => orF_lt l _ (or_lt h (k x List.mem_cons_self)) (fun y hy => k y (List.mem_cons_of_mem _ hy))
theorem orR_lt {m a b : Nat} (hm : m < 4294967296) (hb : b < 32) : orR m a b < 4294967296 := orF_lt _ _ hm fun x hx => by have := List.mem_range'_1.1 hx; omega
theorem stepM_lt {m : Nat} (x : ByteArray) (h : m < 4294967296) : stepM m x < 4294967296 := by
  unfold stepM
  split
  · split
    · exact h
    · exact orR_lt h (by omega)
  · exact h
theorem foldM_lt : ∀ (L : List ByteArray) (m : Nat), m < 4294967296 → L.foldl stepM m < 4294967296
  | [], _, h => h
  | x :: L, m, h => foldM_lt L _ (stepM_lt x h)
theorem accM_lt (L : List ByteArray) : accM L < 4294967296 := foldM_lt L 0 (by omega)
theorem readM_lt (s : ByteArray) : (readM s).1 < 4294967296 := by
  unfold readM readL
  repeat' split
  all_goals first | exact accM_lt _ | decide
/-- What the reference collects. -/
def nums (x : ByteArray) : List Nat := match spanS x with
  | some (a, b) => List.range' a (min (b + 1) 32 - a)
  | none => []
theorem nums_lt (x : ByteArray) : ∀ n ∈ nums x, n < 32 := by
  intro n hn
  unfold nums at hn
  split at hn
  · have := List.mem_range'_1.1 hn; omega
  · cases hn
theorem nums_len (x : ByteArray) : (nums x).length ≤ 32 := by
  unfold nums
  split
  · simp; omega
  · simp
def orL (l : List Nat) (m : Nat) : Nat := l.foldl (fun m n => m ||| 2 ^ n) m
theorem step_nums (m : Nat) (x : ByteArray) (h : greatB x = false) : stepM m x = orL (nums x) m := by
  unfold stepM nums orL greatB at *
  split at h
  · rename_i a b hs
    have hb : ¬ 32 ≤ b := by simpa using h
    rw [if_neg hb]
    unfold orR
    rw [show min (b + 1) 32 = b + 1 by omega]
  · rfl
theorem acc_nums : ∀ (L : List ByteArray) (m : Nat), L.any greatB = false → L.foldl stepM m = orL (L.flatMap nums) m
  | [], _, _ => rfl
  | x :: L, m, h => by
    simp only [List.any_cons, Bool.or_eq_false_iff] at h
    rw [List.foldl_cons, step_nums m x h.1, acc_nums L _ h.2, List.flatMap_cons]
    unfold orL
    rw [List.foldl_append]
theorem orN_nat (l : List Nat) : orN (l.map Int.ofNat) = orL l 0 := by
  unfold orN orL
  rw [List.foldl_map]
  rfl
theorem out_nat (l : List Nat) (h : ∀ n ∈ l, n < 32) : (l.map Int.ofNat).any outB = false := by
  rw [List.any_map, ← Bool.not_eq_true]
  intro ha
  obtain ⟨n, hn, ho⟩ := List.any_eq_true.1 ha
  have := h n hn
  simp only [Function.comp_apply, outB, Int.ofNat_eq_natCast] at ho
  simp at ho
  omega
theorem flat_lt (L : List ByteArray) : ∀ n ∈ L.flatMap nums, n < 32 := fun n hn => by
  obtain ⟨x, _, hx⟩ := List.mem_flatMap.1 hn
  exact nums_lt x n hx
theorem flat_len : ∀ L : List ByteArray, (L.flatMap nums).length ≤ 32 * L.length
  | [] => by simp
  | x :: L => by
    rw [List.flatMap_cons, List.length_append, List.length_cons]
    have := flat_len L
    have := nums_len x
    omega
end Go.Proofs.YtbbihfafkpniiaaGreatDoor

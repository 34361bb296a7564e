/- A text cut at each byte c: the pieces are unique; strings.Split's pieces are they, and so are those of the loop of kauditref01.Cut. -/
import Derived.Lib.SplitLaws
import Derived.Lib.Join
namespace Go.Proofs.YtllomoplpoeggaaDoor
def NoC (c : UInt8) (s : ByteArray) : Prop := ∀ b ∈ s.data.toList, b ≠ c
def joinL (c : UInt8) : List ByteArray → List UInt8
  | [] => []
  | x :: L => x.data.toList ++ Lib.joinTail [c] (L.map (·.data.toList))
theorem joinL_cons (c : UInt8) (x y : ByteArray) (L : List ByteArray) : joinL c (x :: y :: L) = x.data.toList ++ c :: joinL c (y :: L) := by
  simp [joinL, Lib.joinTail]
structure IsW (c : UInt8) (s : ByteArray) (L : List ByteArray) : Prop where
  ne : L ≠ []
  no : ∀ x ∈ L, NoC c x
  eq : s.data.toList = joinL c L
theorem c_split {c : UInt8} : ∀ {a b t u : List UInt8}, (∀ x ∈ a, x ≠ c) → (∀ x ∈ b, x ≠ c) → (t = [] ∨ ∃ r, t = c :: r) → (u = [] ∨ ∃ r, u = c :: r) → a ++ t = b ++ u → a = b ∧ t = u
  | [], [], t, u, _, _, _, _, h => by simpa using h
  | [], y :: b, t, u, _, hb, ht, _, h => by
    rcases ht with rfl | ⟨r, rfl⟩
    · simp at h
    · simp at h; exact absurd h.1.symm (hb y List.mem_cons_self)
  | x :: a, [], t, u, ha, _, _, hu, h => by
    rcases hu with rfl | ⟨r, rfl⟩
    · simp at h
    · simp at h; exact absurd h.1 (ha x List.mem_cons_self)
  | x :: a, y :: b, t, u, ha, hb, ht, hu, h => by
    simp only [List.cons_append, List.cons.injEq] at h
    obtain ⟨h1, h2⟩ := c_split (fun c hc => ha c (List.mem_cons_of_mem _ hc)) (fun c hc => hb c (List.mem_cons_of_mem _ hc)) ht hu h.2
    exact ⟨by rw [h.1, h1], h2⟩
theorem bsz (s : ByteArray) : s.data.toList.length = s.size := by simp
theorem data_inj {a b : ByteArray} (h : a.data.toList = b.data.toList) : a = b := by
  cases a; cases b; simp at h; exact congrArg _ h
theorem joinL_inj {c : UInt8} : ∀ {L M : List ByteArray}, L ≠ [] → M ≠ [] → (∀ x ∈ L, NoC c x) → (∀ x ∈ M, NoC c x) → joinL c L = joinL c M → L = M
  | [], _, h, _, _, _, _ => absurd rfl h
  | _ :: _, [], _, h, _, _, _ => absurd rfl h
  | [x], [y], _, _, _, _, h => by
    have h' : x.data.toList = y.data.toList := by simpa [joinL, Lib.joinTail] using h
    rw [data_inj h']
  | [x], y :: z :: M, _, _, hx, hy, h => by
    rw [joinL_cons] at h
    have h' : x.data.toList ++ [] = y.data.toList ++ c :: joinL c (z :: M) := by rw [← h]; simp [joinL, Lib.joinTail]
    have := (c_split (hx x (by simp)) (hy y (by simp)) (.inl rfl) (.inr ⟨_, rfl⟩) h').2
    cases this
  | x :: z :: L, [y], _, _, hx, hy, h => by
    rw [joinL_cons] at h
    have h' : x.data.toList ++ c :: joinL c (z :: L) = y.data.toList ++ [] := by rw [h]; simp [joinL, Lib.joinTail]
    have := (c_split (hx x (by simp)) (hy y (by simp)) (.inr ⟨_, rfl⟩) (.inl rfl) h').2
    cases this
  | x :: x2 :: L, y :: y2 :: M, _, _, hx, hy, h => by
    rw [joinL_cons, joinL_cons] at h
    obtain ⟨h1, h2⟩ := c_split (hx x (by simp)) (hy y (by simp)) (.inr ⟨_, rfl⟩) (.inr ⟨_, rfl⟩) h
    simp only [List.cons.injEq, true_and] at h2
    rw [data_inj h1, joinL_inj (by simp) (by simp) (fun s hs => hx s (List.mem_cons_of_mem _ hs)) (fun s hs => hy s (List.mem_cons_of_mem _ hs)) h2]
theorem IsW.unique {c : UInt8} {s : ByteArray} {L M : List ByteArray} (h : IsW c s L) (k : IsW c s M) : L = M :=
  joinL_inj h.ne k.ne h.no k.no (h.eq.symm.trans k.eq)
theorem IsW.size {c : UInt8} {s : ByteArray} {L : List ByteArray} (h : IsW c s L) : L.length ≤ s.size + 1 ∧ ∀ x ∈ L, x.size ≤ s.size := by
  have key : ∀ L : List ByteArray, L.length ≤ (joinL c L).length + 1 ∧ ∀ x ∈ L, x.size ≤ (joinL c L).length := by
    intro L
    induction L with
    | nil => simp
    | cons x L ih =>
      cases L with
      | nil =>
        refine ⟨by simp, fun z hz => ?_⟩
        rw [List.mem_singleton.1 hz, ← bsz]
        simp [joinL, Lib.joinTail]
      | cons y L =>
        rw [joinL_cons]
        obtain ⟨h1, h2⟩ := ih
        refine ⟨by simp at h1 ⊢; omega, ?_⟩
        intro z hz
        rcases List.mem_cons.1 hz with rfl | hz
        · rw [← bsz]; simp
        · have := h2 z hz; simp; omega
  have := key L
  rw [← h.eq, bsz] at this
  exact this
/-- Split's pieces. -/
theorem isW_split (c : UInt8) : ∀ (k : Nat) (s : ByteArray), Lib.countB s ⟨#[c]⟩ = k → IsW c s (Lib.splitB ⟨#[c]⟩ 0 k s)
  | 0, s, h => by
    rw [Lib.splitB_zero]
    refine ⟨by simp, ?_, by simp [joinL, Lib.joinTail]⟩
    intro x hx
    rw [List.mem_singleton.1 hx]
    intro b hb e
    subst e
    have h0 : Lib.count s.data.toList [b] = 0 := h
    rw [Lib.count_one] at h0
    have := List.count_pos_iff.2 hb
    omega
  | k + 1, s, h => by
    rcases Lib.index_spec s.data.toList [c] with ⟨h1, _⟩ | ⟨i, h1, h2, h3, h4⟩
    · have := Lib.countB_miss s ⟨#[c]⟩ h1
      omega
    · have hk : Lib.countB (s.extract (i + 1) s.size) ⟨#[c]⟩ = k := by
        have := Lib.countB_hit s ⟨#[c]⟩ i (Nat.le_refl 1) h1
        have e : (⟨#[c]⟩ : ByteArray).size = 1 := rfl
        rw [e] at this
        omega
      have hc : s.data.toList[i]? = some c := Lib.occAt_head rfl h3
      rw [Lib.splitB_hit _ _ _ _ i h1]
      have e1 : (⟨#[c]⟩ : ByteArray).size = 1 := rfl
      rw [e1, Nat.add_zero]
      have ih := isW_split c k _ hk
      have hi : i < s.data.toList.length := by
        by_cases hlt : i < s.data.toList.length
        · exact hlt
        · rw [List.getElem?_eq_none (by omega)] at hc; cases hc
      have hlow : ∀ b ∈ s.data.toList.take i, b ≠ c := by
        intro b hb e
        obtain ⟨j, hj, he⟩ := List.mem_iff_getElem.1 hb
        rw [List.length_take] at hj
        rw [List.getElem_take] at he
        have hjl : j < i := Nat.lt_of_lt_of_le hj (Nat.min_le_left _ _)
        have := h4 j hjl
        have hjs : j + 1 ≤ s.data.toList.length := by omega
        rw [Lib.occAt_iff_take _ _ _ hjs] at this
        rw [List.drop_eq_getElem_cons (by omega)] at this
        simp [he, e] at this
      refine ⟨by simp, ?_, ?_⟩
      · intro x hx
        rcases List.mem_cons.1 hx with rfl | hx
        · intro b hb; rw [Lib.extract_from_zero] at hb; exact hlow b hb
        · exact ih.no x hx
      · obtain ⟨y, M, hy⟩ : ∃ y M, Lib.splitB ⟨#[c]⟩ 0 k (s.extract (i + 1) s.size) = y :: M := by
          cases hm : Lib.splitB ⟨#[c]⟩ 0 k (s.extract (i + 1) s.size) with
          | nil => exact absurd hm ih.ne
          | cons y M => exact ⟨y, M, rfl⟩
        rw [hy, joinL_cons, ← hy, ← ih.eq, Lib.extract_from_zero, Lib.extract_to_end]
        have hg : s.data.toList[i] = c := by rw [List.getElem?_eq_getElem hi] at hc; exact Option.some.inj hc
        conv => lhs; rw [← List.take_append_drop i s.data.toList, List.drop_eq_getElem_cons hi, hg]
/-- The loop of Cut: D are the pieces so far, the next begins at m, the loop is at i. -/
def flatC (c : UInt8) (D : List ByteArray) : List UInt8 := (D.map (fun d => d.data.toList ++ [c])).flatten
theorem flatC_join (c : UInt8) (x : ByteArray) : ∀ D : List ByteArray, flatC c D ++ x.data.toList = joinL c (D ++ [x])
  | [] => by simp [flatC, joinL, Lib.joinTail]
  | [d] => by simp [flatC, joinL, Lib.joinTail]
  | d :: e :: D => by
    have ih := flatC_join c x (e :: D)
    have h1 : flatC c (d :: e :: D) = d.data.toList ++ c :: flatC c (e :: D) := by simp [flatC]
    have h2 : d :: e :: D ++ [x] = d :: e :: (D ++ [x]) := rfl
    have h3 : e :: D ++ [x] = e :: (D ++ [x]) := rfl
    rw [h1, h2, joinL_cons, ← h3, ← ih]
    simp
structure CutSt (c : UInt8) (s : ByteArray) (D : List ByteArray) (m i : Nat) : Prop where
  le : m ≤ i
  top : i ≤ s.size
  eq : s.data.toList.take m = flatC c D
  no : ∀ d ∈ D, NoC c d
  rest : ∀ j, m ≤ j → j < i → s.data.toList[j]? ≠ some c
theorem CutSt.start (c : UInt8) (s : ByteArray) : CutSt c s [] 0 0 := ⟨Nat.le_refl _, Nat.zero_le _, rfl, by simp, fun _ _ h => absurd h (Nat.not_lt_zero _)⟩
theorem CutSt.next {c : UInt8} {s : ByteArray} {D : List ByteArray} {m i : Nat} (h : CutSt c s D m i) (hi : i < s.size) (hc : s[i] ≠ c) : CutSt c s D m (i + 1) :=
  ⟨by have := h.le; omega, hi, h.eq, h.no, fun j h1 h2 => by
    by_cases e : j = i
    · subst e
      rw [List.getElem?_eq_getElem (by rw [bsz]; exact hi)]
      intro e; exact hc (Option.some.inj e)
    · exact h.rest j h1 (by omega)⟩
theorem extract_list (s : ByteArray) (a b : Nat) : (s.extract a b).data.toList = (s.data.toList.take b).drop a := by
  rw [Lib.extract_data]; simp [List.drop_take]
theorem CutSt.piece {c : UInt8} {s : ByteArray} {D : List ByteArray} {m i : Nat} (h : CutSt c s D m i) : NoC c (s.extract m i) := by
  intro b hb e
  rw [extract_list] at hb
  obtain ⟨j, hj, he⟩ := List.mem_iff_getElem.1 hb
  rw [List.getElem_drop, List.getElem_take] at he
  rw [List.length_drop, List.length_take] at hj
  refine h.rest (m + j) (by omega) (by omega) ?_
  rw [List.getElem?_eq_getElem (by omega), he, e]
theorem CutSt.cut {c : UInt8} {s : ByteArray} {D : List ByteArray} {m i : Nat} (h : CutSt c s D m i) (hi : i < s.size) (hc : s[i] = c) : CutSt c s (D ++ [s.extract m i]) (i + 1) (i + 1) := by
  have hi' : i < s.data.toList.length := by rw [bsz]; exact hi
  refine ⟨Nat.le_refl _, hi, ?_, ?_, fun j h1 h2 => absurd h2 (by omega)⟩
  · have hg : s.data.toList[i] = c := hc
    have e1 : s.data.toList.take (i + 1) = s.data.toList.take i ++ [c] := by rw [List.take_succ_eq_append_getElem hi', hg]
    have e2 : s.data.toList.take i = s.data.toList.take m ++ (s.extract m i).data.toList := by
      rw [extract_list]
      conv => lhs; rw [← List.take_append_drop m (s.data.toList.take i), List.take_take, Nat.min_eq_left h.le]
    rw [e1, e2, h.eq]
    simp [flatC]
  · intro d hd
    rcases List.mem_append.1 hd with h1 | h1
    · exact h.no d h1
    · rw [List.mem_singleton.1 h1]; exact h.piece
theorem CutSt.done {c : UInt8} {s : ByteArray} {D : List ByteArray} {m : Nat} (h : CutSt c s D m s.size) : IsW c s (D ++ [s.extract m s.size]) := by
  refine ⟨by simp, ?_, ?_⟩
  · intro d hd
    rcases List.mem_append.1 hd with h1 | h1
    · exact h.no d h1
    · rw [List.mem_singleton.1 h1]; exact h.piece
  · rw [← flatC_join, ← h.eq, extract_list]
    have : s.data.toList.take s.size = s.data.toList := List.take_of_length_le (by rw [bsz]; exact Nat.le_refl _)
    rw [this, List.take_append_drop]
theorem CutSt.count {c : UInt8} {s : ByteArray} {D : List ByteArray} {m i : Nat} (h : CutSt c s D m i) : D.length ≤ m := by
  have : ∀ D : List ByteArray, D.length ≤ (flatC c D).length := by
    intro D
    induction D with
    | nil => simp
    | cons d D ih =>
      have : flatC c (d :: D) = d.data.toList ++ c :: flatC c D := by simp [flatC]
      rw [this]; simp; omega
  have h1 := this D
  rw [← h.eq, List.length_take] at h1
  omega
end Go.Proofs.YtllomoplpoeggaaDoor

/- Reading the text of a set: plain facts, with no program in sight. -/
import Derived.Test.YtllomoplpoeggaaDoorCutPlain
import Derived.Test.YtllomoplpoeggaaDoorMaskPlain
import Derived.Test.YtllomoplpoeggaaDoorMaskOf
namespace Go.Proofs.YtllomoplpoeggaaDoor
/-- The first byte c of a text. -/
theorem ib_spec (c : UInt8) : ∀ l : List UInt8, (Lib.indexByte l c = -1 ∧ ∀ x ∈ l, x ≠ c) ∨ (∃ i : Nat, Lib.indexByte l c = (i : Int) ∧ i < l.length ∧ l = l.take i ++ c :: l.drop (i + 1) ∧ ∀ x ∈ l.take i, x ≠ c)
  | [] => .inl ⟨rfl, by simp⟩
  | b :: l => by
    by_cases h : b = c
    · subst h
      exact .inr ⟨0, by simp [Lib.indexByte], by simp, by simp, by simp⟩
    · have hb : (b == c) = false := by simpa using h
      rcases ib_spec c l with ⟨h1, h2⟩ | ⟨i, h1, h2, h3, h4⟩
      · refine .inl ⟨by simp [Lib.indexByte, hb, h1], ?_⟩
        intro x hx
        rcases List.mem_cons.1 hx with rfl | hx
        · exact h
        · exact h2 x hx
      · have hi : ((i : Int) == -1) = false := by rw [beq_eq_false_iff_ne]; omega
        refine .inr ⟨i + 1, by simp [Lib.indexByte, hb, h1, hi], by simp; omega, ?_, ?_⟩
        · simp only [List.take_succ_cons, List.drop_succ_cons, List.cons_append]
          rw [← h3]
        · intro x hx
          rw [List.take_succ_cons] at hx
          rcases List.mem_cons.1 hx with rfl | hx
          · exact h
          · exact h4 x hx
def digC (c : UInt8) : Bool := decide (48 ≤ c.toNat) && decide (c.toNat ≤ 57)
def valN (l : List UInt8) : Nat := l.foldl (fun v c => 10 * v + (c.toNat - 48)) 0
theorem valN_snoc (l : List UInt8) (c : UInt8) : valN (l ++ [c]) = 10 * valN l + (c.toNat - 48) := by simp [valN, List.foldl_append]
theorem valN_fold (l : List UInt8) : ∀ (v : Nat), l.all digC = true → l.foldl (fun v c => 10 * v + (c.toNat - 48)) v < (v + 1) * 10 ^ l.length := by
  induction l with
  | nil => intro v _; simp
  | cons c l ih =>
    intro v h
    simp only [List.all_cons, Bool.and_eq_true] at h
    have h1 := h.1
    unfold digC at h1
    simp at h1
    have := ih (10 * v + (c.toNat - 48)) h.2
    simp only [List.foldl_cons, List.length_cons]
    have e : (10 * v + (c.toNat - 48) + 1) * 10 ^ l.length ≤ (v + 1) * 10 ^ (l.length + 1) := by
      rw [Nat.pow_succ, Nat.mul_comm (10 ^ l.length) 10, ← Nat.mul_assoc]
      exact Nat.mul_le_mul_right _ (by omega)
    omega
theorem valN_le (l : List UInt8) (h : l.all digC = true) (hl : l.length ≤ 4) : valN l ≤ 9999 := by
  have h1 := valN_fold l 0 h
  have h2 : 10 ^ l.length ≤ 10 ^ 4 := Nat.pow_le_pow_right (by omega) hl
  have e : (10 : Nat) ^ 4 = 10000 := by decide
  rw [e] at h2
  unfold valN
  omega
/-- The first part of the test: the length, and the first digit. -/
def shapeN (l : List UInt8) : Bool := decide (1 ≤ l.length) && decide (l.length ≤ 4) && !(l.head? == some 48 && decide (1 < l.length))
/-- A decimal number of one to four digits, without leading zeros. -/
def num4 (s : ByteArray) : Option Nat := if shapeN s.data.toList && s.data.toList.all digC then some (valN s.data.toList) else none
theorem num4_le {s : ByteArray} {n : Nat} (h : num4 s = some n) : n ≤ 9999 := by
  unfold num4 at h
  split at h
  · rename_i hc
    simp only [Bool.and_eq_true] at hc
    have h2 := hc.1
    unfold shapeN at h2
    simp only [Bool.and_eq_true, decide_eq_true_eq] at h2
    have := valN_le _ hc.2 h2.1.2
    have e := Option.some.inj h
    omega
  · cases h
theorem num4_no (s : ByteArray) (c : UInt8) (h : c ∈ s.data.toList) (hc : digC c = false) : num4 s = none := by
  unfold num4
  have : s.data.toList.all digC = false := by
    rw [← Bool.not_eq_true]; intro ha
    have := List.all_eq_true.1 ha c h
    rw [hc] at this; cases this
  rw [this]; simp
/-- The pieces of a text that is cut at each byte c. -/
def piecesOf (c : UInt8) (s : ByteArray) : List ByteArray := Lib.splitB ⟨#[c]⟩ 0 (Lib.countB s ⟨#[c]⟩) s
theorem isW_pieces (c : UInt8) (s : ByteArray) : IsW c s (piecesOf c s) := isW_split c _ s rfl
theorem pieces_of {c : UInt8} {s : ByteArray} {L : List ByteArray} (h : IsW c s L) : piecesOf c s = L := (isW_pieces c s).unique h
theorem pieces_one {c : UInt8} {s : ByteArray} (h : ∀ x ∈ s.data.toList, x ≠ c) : piecesOf c s = [s] :=
  pieces_of ⟨by simp, fun x hx => by rw [List.mem_singleton.1 hx]; exact h, by simp [joinL, Lib.joinTail]⟩
theorem isW_cons {c : UInt8} {s a b : ByteArray} {L : List ByteArray} (h : s.data.toList = a.data.toList ++ c :: b.data.toList) (ha : NoC c a) (hb : IsW c b L) : IsW c s (a :: L) := by
  obtain ⟨h1, h2, h3⟩ := hb
  cases L with
  | nil => exact absurd rfl h1
  | cons y M =>
    refine ⟨by simp, ?_, by rw [joinL_cons, ← h3, h]⟩
    intro x hx
    rcases List.mem_cons.1 hx with rfl | hx
    · exact ha
    · exact h2 x hx
theorem isW_flat {c : UInt8} : ∀ {D : List ByteArray} {s r : ByteArray} {L : List ByteArray}, flatC c D ++ r.data.toList = s.data.toList → (∀ d ∈ D, NoC c d) → IsW c r L → IsW c s (D ++ L)
  | [], s, r, L, h, _, k => by
    have : r = s := data_inj (by simpa [flatC] using h)
    rw [← this]; exact k
  | d :: D, s, r, L, h, hd, k => by
    have e : flatC c (d :: D) = d.data.toList ++ c :: flatC c D := by simp [flatC]
    have h2 := isW_flat (D := D) (s := ⟨(flatC c D ++ r.data.toList).toArray⟩) (r := r) (L := L) (by simp) (fun x hx => hd x (List.mem_cons_of_mem _ hx)) k
    refine isW_cons (b := ⟨(flatC c D ++ r.data.toList).toArray⟩) ?_ (hd d List.mem_cons_self) h2
    rw [← h, e]; simp
theorem flatC_snoc (c : UInt8) (D : List ByteArray) (x : ByteArray) : flatC c (D ++ [x]) = flatC c D ++ (x.data.toList ++ [c]) := by simp [flatC]
/-- An item N or N-M. -/
def spanL : List ByteArray → Option (Nat × Nat)
  | [x] => (num4 x).map fun n => (n, n)
  | [x, y] => match num4 x, num4 y with
    | some a, some b => if a ≤ b then some (a, b) else none
    | _, _ => none
  | _ => none
def spanS (s : ByteArray) : Option (Nat × Nat) := spanL (piecesOf 45 s)
theorem spanL_le {L : List ByteArray} {a b : Nat} (h : spanL L = some (a, b)) : a ≤ b ∧ b ≤ 9999 := by
  unfold spanL at h
  split at h
  · rename_i x
    cases hx : num4 x with
    | none => rw [hx] at h; cases h
    | some n =>
      rw [hx] at h
      have := num4_le hx
      simp at h
      omega
  · rename_i x y
    split at h
    · rename_i p q hp hq
      split at h
      · injection h with h; injection h with h1 h2
        have := num4_le hq
        omega
      · cases h
    · cases h
  · cases h
/-- The members of an item, added to a set. -/
def orR (m a b : Nat) : Nat := (List.range' a (b + 1 - a)).foldl (fun m n => m ||| 2 ^ n) m
def greatB (x : ByteArray) : Bool := match spanS x with
  | some (_, b) => decide (32 ≤ b)
  | none => false
def badB (x : ByteArray) : Bool := (spanS x).isNone
def stepM (m : Nat) (x : ByteArray) : Nat := match spanS x with
  | some (a, b) => if 32 ≤ b then m else orR m a b
  | none => m
def accM (L : List ByteArray) : Nat := L.foldl stepM 0
theorem accM_snoc (L : List ByteArray) (x : ByteArray) : accM (L ++ [x]) = stepM (accM L) x := by simp [accM, List.foldl_append]
def txAll : ByteArray := ⟨#[97, 108, 108]⟩
def txNone : ByteArray := ⟨#[110, 111, 110, 101]⟩
def readL (L : List ByteArray) : Nat × Int := if L.any badB then (0, 11) else if L.any greatB then (0, 10) else (accM L, 0)
def readM (s : ByteArray) : Nat × Int := if s = txAll then (4294967295, 0) else if s = txNone then (0, 0) else readL (piecesOf 44 s)
theorem orR_succ (m a k : Nat) (h : a ≤ k) : orR m a k = (List.range' a (k - a)).foldl (fun m n => m ||| 2 ^ n) m ||| 2 ^ k := by
  unfold orR
  rw [show k + 1 - a = (k - a) + 1 by omega, List.range'_concat, List.foldl_append]
  simp
  congr 2; omega
theorem or_pow_lt {m n : Nat} (hm : m < 4294967296) (hn : n < 32) : m ||| 2 ^ n < 4294967296 := or_lt hm hn
theorem orF_lt : ∀ (l : List Nat) (m : Nat), m < 4294967296 → (∀ x ∈ l, x < 32) → l.foldl (fun m n => m ||| 2 ^ n) m < 4294967296
  | [], m, h, _ => h
  | x :: l, m, h, k => orF_lt l _ (or_lt h (k x List.mem_cons_self)) (fun y hy => k y (List.mem_cons_of_mem _ hy))
theorem orR_lt {m a b : Nat} (hm : m < 4294967296) (hb : b < 32) : orR m a b < 4294967296 := orF_lt _ _ hm fun x hx => by have := List.mem_range'_1.1 hx; omega
theorem stepM_lt {m : Nat} (x : ByteArray) (h : m < 4294967296) : stepM m x < 4294967296 := by
  unfold stepM
  split
  · split
    · exact h
    · exact orR_lt h (by omega)
  · exact h
theorem foldM_lt : ∀ (L : List ByteArray) (m : Nat), m < 4294967296 → L.foldl stepM m < 4294967296
  | [], _, h => h
  | x :: L, m, h => foldM_lt L _ (stepM_lt x h)
theorem accM_lt (L : List ByteArray) : accM L < 4294967296 := foldM_lt L 0 (by omega)
theorem readM_lt (s : ByteArray) : (readM s).1 < 4294967296 := by
  unfold readM readL
  repeat' split
  all_goals first | exact accM_lt _ | decide
/-- What the reference collects. -/
def nums (x : ByteArray) : List Nat := match spanS x with
  | some (a, b) => List.range' a (min (b + 1) 32 - a)
  | none => []
theorem nums_lt (x : ByteArray) : ∀ n ∈ nums x, n < 32 := by
  intro n hn
  unfold nums at hn
  split at hn
  · have := List.mem_range'_1.1 hn; omega
  · cases hn
theorem nums_len (x : ByteArray) : (nums x).length ≤ 32 := by
  unfold nums
  split
  · simp; omega
  · simp
def orL (l : List Nat) (m : Nat) : Nat := l.foldl (fun m n => m ||| 2 ^ n) m
theorem step_nums (m : Nat) (x : ByteArray) (h : greatB x = false) : stepM m x = orL (nums x) m := by
  unfold stepM nums orL greatB at *
  split at h
  · rename_i a b hs
    have hb : ¬ 32 ≤ b := by simpa using h
    rw [if_neg hb]
    unfold orR
    rw [show min (b + 1) 32 = b + 1 by omega]
  · rfl
theorem acc_nums : ∀ (L : List ByteArray) (m : Nat), L.any greatB = false → L.foldl stepM m = orL (L.flatMap nums) m
  | [], _, _ => rfl
  | x :: L, m, h => by
    simp only [List.any_cons, Bool.or_eq_false_iff] at h
    rw [List.foldl_cons, step_nums m x h.1, acc_nums L _ h.2, List.flatMap_cons]
    unfold orL
    rw [List.foldl_append]
theorem orN_nat (l : List Nat) : orN (l.map Int.ofNat) = orL l 0 := by
  unfold orN orL
  rw [List.foldl_map]
  rfl
theorem out_nat (l : List Nat) (h : ∀ n ∈ l, n < 32) : (l.map Int.ofNat).any outB = false := by
  rw [List.any_map, ← Bool.not_eq_true]
  intro ha
  obtain ⟨n, hn, ho⟩ := List.any_eq_true.1 ha
  have := h n hn
  simp only [Function.comp_apply, outB, Int.ofNat_eq_natCast] at ho
  simp at ho
  omega
theorem flat_lt (L : List ByteArray) : ∀ n ∈ L.flatMap nums, n < 32 := fun n hn => by
  obtain ⟨x, _, hx⟩ := List.mem_flatMap.1 hn
  exact nums_lt x n hx
theorem flat_len : ∀ L : List ByteArray, (L.flatMap nums).length ≤ 32 * L.length
  | [] => by simp
  | x :: L => by
    rw [List.flatMap_cons, List.length_append, List.length_cons]
    have := flat_len L
    have := nums_len x
    omega
end Go.Proofs.YtllomoplpoeggaaDoor

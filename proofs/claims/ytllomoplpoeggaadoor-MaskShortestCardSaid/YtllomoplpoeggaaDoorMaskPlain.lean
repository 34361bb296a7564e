/- The members of a set, their runs, and the text of a set: plain facts. -/
import Derived.Test.YtllomoplpoeggaaDoorMaskHas
import Derived.Test.YtllomoplpoeggaaDoorItoa
import Derived.Lib.Join
namespace Go.Proofs.YtllomoplpoeggaaDoor
def hasN (m n : Nat) : Bool := decide (n < 32) && m.testBit n
theorem hasB_nat (m n : Nat) : hasB m (n : Int) = hasN m n := by
  unfold hasB hasN
  by_cases h : n < 32
  · simp [h]; omega
  · simp [h]; omega
/-- The members from k on. -/
def memF (m k : Nat) : List Nat := (List.range' k (32 - k)).filter (hasN m)
theorem memF_step (m k : Nat) (h : k < 32) : memF m k = if hasN m k then k :: memF m (k + 1) else memF m (k + 1) := by
  unfold memF
  rw [show 32 - k = (32 - (k + 1)) + 1 by omega, List.range'_succ, List.filter_cons]
theorem memF_end (m k : Nat) (h : 32 ≤ k) : memF m k = [] := by
  unfold memF; rw [show 32 - k = 0 by omega]; rfl
theorem memF_no (m k : Nat) (h : hasN m k = false) : memF m k = memF m (k + 1) := by
  by_cases hk : k < 32
  · rw [memF_step m k hk, h]; rfl
  · rw [memF_end m k (by omega), memF_end m (k + 1) (by omega)]
theorem hasN_lt {m k : Nat} (h : hasN m k = true) : k < 32 := by unfold hasN at h; simp at h; exact h.1
theorem memF_yes (m k : Nat) (h : hasN m k = true) : memF m k = k :: memF m (k + 1) := by
  rw [memF_step m k (hasN_lt h), h]; rfl
theorem memF_ge (m k : Nat) : ∀ x ∈ memF m k, k ≤ x ∧ x < 32 := by
  intro x hx
  unfold memF at hx
  have := List.mem_range'_1.1 (List.mem_filter.1 hx).1
  omega
/-- The runs of an ascending list. -/
def grp : List Nat → List (Nat × Nat)
  | [] => []
  | a :: l => match grp l with
    | [] => [(a, a)]
    | (b, c) :: r => if b = a + 1 then (a, c) :: r else (a, a) :: (b, c) :: r
theorem grp_head {l : List Nat} {b c : Nat} {r : List (Nat × Nat)} (h : grp l = (b, c) :: r) : b ∈ l := by
  cases l with
  | nil => cases h
  | cons a l =>
    unfold grp at h
    split at h
    · injection h with h _; injection h with h _; subst h; exact List.mem_cons_self
    · split at h
      · injection h with h _; injection h with h _; subst h; exact List.mem_cons_self
      · injection h with h _; injection h with h _; subst h; exact List.mem_cons_self
theorem grp_alone (a : Nat) (l : List Nat) (h : ∀ x ∈ l, a + 2 ≤ x) : grp (a :: l) = (a, a) :: grp l := by
  show (match grp l with | [] => [(a, a)] | (b, c) :: r => if b = a + 1 then (a, c) :: r else (a, a) :: (b, c) :: r) = _
  cases hg : grp l with
  | nil => rfl
  | cons p r =>
    obtain ⟨b, c⟩ := p
    have := h b (grp_head hg)
    simp only
    rw [if_neg (by omega)]
theorem grp_join (a c : Nat) (l : List Nat) (r : List (Nat × Nat)) (h : grp l = (a + 1, c) :: r) : grp (a :: l) = (a, c) :: r := by
  show (match grp l with | [] => [(a, a)] | (b, c) :: r => if b = a + 1 then (a, c) :: r else (a, a) :: (b, c) :: r) = _
  rw [h]; simp
theorem grp_run (m : Nat) : ∀ (d a b : Nat), b = a + d → (∀ i, a ≤ i → i ≤ b → hasN m i = true) → hasN m (b + 1) = false → grp (memF m a) = (a, b) :: grp (memF m (b + 1))
  | 0, a, b, hb, hall, hno => by
    obtain rfl : b = a := by omega
    rw [memF_yes m b (hall b (Nat.le_refl _) (Nat.le_refl _))]
    refine grp_alone b _ fun x hx => ?_
    rw [memF_no m (b + 1) hno] at hx
    exact (memF_ge m _ x hx).1
  | d + 1, a, b, hb, hall, hno => by
    rw [memF_yes m a (hall a (Nat.le_refl _) (by omega))]
    exact grp_join a b _ _ (grp_run m d (a + 1) b (by omega) (fun i h1 h2 => hall i (by omega) h2) hno)
def rtext (p : Nat × Nat) : List UInt8 := if p.1 < p.2 then Lib.decDigits p.1 ++ 45 :: Lib.decDigits p.2 else Lib.decDigits p.1
def rtextS (p : Nat × Nat) : ByteArray := ⟨(rtext p).toArray⟩
theorem rtextS_one (a : Nat) : rtextS (a, a) = decS a := by unfold rtextS rtext decS; simp
theorem rtextS_two (a b : Nat) (h : a < b) : rtextS (a, b) = decS a ++ (⟨#[45]⟩ ++ decS b) := by
  unfold rtextS rtext decS; rw [if_pos h]
  apply ByteArray.ext; simp
theorem dec_len2 (n : Nat) (h : n < 100) : (Lib.decDigits n).length ≤ 2 := by rw [Lib.decDigits_length]; exact nd_le 1 n h
theorem decS_size2 (n : Nat) (h : n < 100) : (decS n).size ≤ 2 := by
  have : (decS n).size = (Lib.decDigits n).length := by show (Lib.decDigits n).toArray.size = _; simp
  rw [this]; exact dec_len2 n h
/-- The text of a set. -/
def maskS (m : Nat) : ByteArray :=
  if m % 4294967296 = 4294967295 then ⟨#[97, 108, 108]⟩ else if m % 4294967296 = 0 then ⟨#[110, 111, 110, 101]⟩
  else ⟨(Lib.join ((grp (memF m 0)).map rtext) [44]).toArray⟩
end Go.Proofs.YtllomoplpoeggaaDoor

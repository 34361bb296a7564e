/- Texts of one proof, laid together. -/
import Derived.Test.YtollifnnpihfdaaGreatDoorC09
import Derived.Test.YtollifnnpihfdaaGreatDoorC07
import Derived.Lib.Join
import Derived.OwnWalk
/- Has, of the program and of the reference; Valid. -/
namespace Go.Proofs.YtollifnnpihfdaaGreatDoor
open Go.RowKit
/-- The call n is in the set m. -/
def hasB (m : Nat) (n : Int) : Bool := decide (0 ≤ n) && decide (n < 32) && m.testBit n.toNat
theorem bit_and (m : Nat) (k : Nat) (hm : m < 18446744073709551616) : bits .and .u64 ((m : Int) / 2 ^ k) 1 = if m.testBit k then 1 else 0 := by
  have e : (m : Int) / 2 ^ k = ((m / 2 ^ k : Nat) : Int) := by rw [Int.natCast_ediv, Int.natCast_pow]; rfl
  have hlt : m / 2 ^ k < 18446744073709551616 := Nat.lt_of_le_of_lt (Nat.div_le_self _ _) hm
  rw [e, show (1 : Int) = ((1 : Nat) : Int) from rfl, u64_and_nat _ 1 hlt (by omega)]
  rw [Nat.and_one_is_mod, Nat.testBit_eq_decide_div_mod_eq]
  by_cases h : m / 2 ^ k % 2 = 1
  · simp [h]
  · have : m / 2 ^ k % 2 = 0 := by omega
    simp [this]
set_option maxHeartbeats 400000 in
theorem vhas (m : Nat) (n : Int) (w : World) (hm : m < 18446744073709551616) :
    Calls Tryz.prog 181 #[.int .u64 (m : Int), .int .i64 n] w fun e w' => e = .returned (.bool (hasB m n)) ∧ w = w' := by
  have HB := Lib.hid (bit_and m n.toNat hm)
  clear hm
  by_cases h0 : 0 ≤ n
  · by_cases h1 : n < 32
    · have HH := Lib.hid (show hasB m n = m.testBit n.toNat by unfold hasB; simp [h0, h1])
      go_enter Tryz.func181, Tryz.ntmps181
      go_wp2
      go_ret
      refine ⟨retB ?_, rfl⟩
      rw [HH.out, HB.out]
      cases m.testBit n.toNat <;> rfl
    · have H := Lib.hid (show hasB m n = false by unfold hasB; simp; omega)
      go_enter Tryz.func181, Tryz.ntmps181
      go_wp2
      go_ret
      exact ⟨retB H.out.symm, rfl⟩
  · have H := Lib.hid (show hasB m n = false by unfold hasB; simp; omega)
    go_enter Tryz.func181, Tryz.ntmps181
    go_wp2
    go_ret
    exact ⟨retB H.out.symm, rfl⟩
set_option maxHeartbeats 400000 in
theorem rhas (m : Nat) (n : Int) (w : World) (hm : m < 18446744073709551616) :
    Calls Tryz.prog 172 #[.int .u64 (m : Int), .int .i64 n] w fun e w' => e = .returned (.bool (hasB m n)) ∧ w = w' := by
  have HB := Lib.hid (bit_and m n.toNat hm)
  clear hm
  by_cases h0 : 0 ≤ n
  · by_cases h1 : n < 32
    · have HH := Lib.hid (show hasB m n = m.testBit n.toNat by unfold hasB; simp [h0, h1])
      go_enter Tryz.func172, Tryz.ntmps172
      go_wp2
      go_ret
      refine ⟨retB ?_, rfl⟩
      rw [HH.out, HB.out]
      cases m.testBit n.toNat <;> rfl
    · have H := Lib.hid (show hasB m n = false by unfold hasB; simp; omega)
      go_enter Tryz.func172, Tryz.ntmps172
      go_wp2
      go_ret
      exact ⟨retB H.out.symm, rfl⟩
  · have H := Lib.hid (show hasB m n = false by unfold hasB; simp; omega)
    go_enter Tryz.func172, Tryz.ntmps172
    go_wp2
    go_ret
    exact ⟨retB H.out.symm, rfl⟩
def validB (m : Nat) : Bool := decide (m < 4294967296)
theorem high_bits (i : Nat) : (18446744069414584320 : Nat).testBit i = (decide (32 ≤ i) && decide (i < 64)) := by
  have e : (18446744069414584320 : Nat) = 2 ^ 32 * (2 ^ 32 - 1) := rfl
  rw [e, Nat.testBit_two_pow_mul, Nat.testBit_two_pow_sub_one]
  by_cases h : 32 ≤ i
  · simp [h]; omega
  · simp [h]
theorem valid_and (m : Nat) (hm : m < 18446744073709551616) : (bits .andNot .u64 (m : Int) 4294967295 == 0) = validB m := by
  rw [show (4294967295 : Int) = ((4294967295 : Nat) : Int) from rfl, u64_andNot_nat m 4294967295 hm (by omega)]
  unfold validB
  by_cases h : m < 4294967296
  · have : m &&& (18446744073709551615 - 4294967295) = 0 := by
      apply Nat.eq_of_testBit_eq
      intro i
      rw [Nat.testBit_and, show (18446744073709551615 - 4294967295 : Nat) = 18446744069414584320 from rfl, high_bits, Nat.zero_testBit]
      by_cases hi : 32 ≤ i
      · rw [Nat.testBit_lt_two_pow (Nat.lt_of_lt_of_le h (show 2 ^ 32 ≤ 2 ^ i from Nat.pow_le_pow_right (by omega) hi))]; rfl
      · simp; omega
    rw [this]; simp [h]
  · have hne : m &&& (18446744073709551615 - 4294967295) ≠ 0 := by
      intro h0
      obtain ⟨i, hi, hb⟩ := Nat.exists_ge_and_testBit_of_ge_two_pow (n := 32) (x := m) (by omega)
      have := congrArg (Nat.testBit · i) h0
      simp only [Nat.testBit_and, Nat.zero_testBit, hb] at this
      rw [show (18446744073709551615 - 4294967295 : Nat) = 18446744069414584320 from rfl, high_bits] at this
      have hi64 : i < 64 := by
        rcases Nat.lt_or_ge i 64 with k | k
        · exact k
        · rw [Nat.testBit_lt_two_pow (Nat.lt_of_lt_of_le hm (show 2 ^ 64 ≤ 2 ^ i from Nat.pow_le_pow_right (by omega) k))] at hb; cases hb
      simp at this; omega
    generalize m &&& (18446744073709551615 - 4294967295) = q at *
    simp [h, hne]
set_option maxHeartbeats 400000 in
theorem vvalid (m : Nat) (w : World) (hm : m < 18446744073709551616) :
    Calls Tryz.prog 178 #[.int .u64 (m : Int)] w fun e w' => e = .returned (.bool (validB m)) ∧ w = w' := by
  have HV := Lib.hid (valid_and m hm)
  clear hm
  go_enter Tryz.func178, Tryz.ntmps178
  go_wp2
  go_ret
  exact ⟨retB HV.out, rfl⟩
theorem valid_shr (m : Nat) : ((m : Int) / 4294967296 == 0) = validB m := by
  unfold validB
  by_cases h : m < 4294967296
  · simp [h]; omega
  · simp [h]; omega
set_option maxHeartbeats 400000 in
theorem rvalid (m : Nat) (w : World) :
    Calls Tryz.prog 152 #[.int .u64 (m : Int)] w fun e w' => e = .returned (.bool (validB m)) ∧ w = w' := by
  have HV := Lib.hid (valid_shr m)
  go_enter Tryz.func152, Tryz.ntmps152
  go_wp2
  go_ret
  exact ⟨retB HV.out, rfl⟩
end Go.Proofs.YtollifnnpihfdaaGreatDoor
/- The members of a set, their runs, and the text of a set: plain facts. -/
namespace Go.Proofs.YtollifnnpihfdaaGreatDoor
def hasN (m n : Nat) : Bool := decide (n < 32) && m.testBit n
theorem hasB_nat (m n : Nat) : hasB m (n : Int) = hasN m n := by
  unfold hasB hasN
  by_cases h : n < 32
  · simp [h]; omega
  · simp [h]; omega
/-- The members from k on. -/
def memF (m k : Nat) : List Nat := (List.range' k (32 - k)).filter (hasN m)
theorem memF_step (m k : Nat) (h : k < 32) : memF m k = if hasN m k then k :: memF m (k + 1) else memF m (k + 1) := by
  unfold memF
  rw [show 32 - k = (32 - (k + 1)) + 1 by omega, List.range'_succ, List.filter_cons]
theorem memF_end (m k : Nat) (h : 32 ≤ k) : memF m k = [] := by
  unfold memF; rw [show 32 - k = 0 by omega]; rfl
theorem memF_no (m k : Nat) (h : hasN m k = false) : memF m k = memF m (k + 1) := by
  by_cases hk : k < 32
  · rw [memF_step m k hk, h]; rfl
  · rw [memF_end m k (by omega), memF_end m (k + 1) (by omega)]
theorem hasN_lt {m k : Nat} (h : hasN m k = true) : k < 32 := by unfold hasN at h; simp at h; exact h.1
theorem memF_yes (m k : Nat) (h : hasN m k = true) : memF m k = k :: memF m (k + 1) := by
  rw [memF_step m k (hasN_lt h), h]; rfl
theorem memF_ge (m k : Nat) : ∀ x ∈ memF m k, k ≤ x ∧ x < 32 := by
  intro x hx
  unfold memF at hx
  have := List.mem_range'_1.1 (List.mem_filter.1 hx).1
  omega
/-- The runs of an ascending list. -/
def grp : List Nat → List (Nat × Nat)
  | [] => []
  | a :: l => match grp l with
    | [] => [(a, a)]
    | (b, c) :: r => if b = a + 1 then (a, c) :: r else (a, a) :: (b, c) :: r
theorem grp_head {l : List Nat} {b c : Nat} {r : List (Nat × Nat)} (h : grp l = (b, c) :: r) : b ∈ l := by
  cases l with
  | nil => cases h
  | cons a l =>
    unfold grp at h
    split at h
    · injection h with h _; injection h with h _; subst h; exact List.mem_cons_self
    · split at h
      · injection h with h _; injection h with h _; subst h; exact List.mem_cons_self
      · injection h with h _; injection h with h _; subst h; exact List.mem_cons_self
theorem grp_alone (a : Nat) (l : List Nat) (h : ∀ x ∈ l, a + 2 ≤ x) : grp (a :: l) = (a, a) :: grp l := by
  show (match grp l with | [] => [(a, a)] | (b, c) :: r => if b = a + 1 then (a, c) :: r else (a, a) :: (b, c) :: r) = _
  cases hg : grp l with
  | nil => rfl
  | cons p r =>
    obtain ⟨b, c⟩ := p
    have := h b (grp_head hg)
    simp only
    rw [if_neg (by omega)]
theorem grp_join (a c : Nat) (l : List Nat) (r : List (Nat × Nat)) (h : grp l = (a + 1, c) :: r) : grp (a :: l) = (a, c) :: r := by
  show (match grp l with | [] => [(a, a)] | (b, c) :: r => if b = a + 1 then (a, c) :: r else (a, a) :: (b, c) :: r) = _
  rw [h]; simp
theorem grp_run (m : Nat) : ∀ (d a b : Nat), b = a + d → (∀ i, a ≤ i → i ≤ b → hasN m i = true) → hasN m (b + 1) = false → grp (memF m a) = (a, b) :: grp (memF m (b + 1))
  | 0, a, b, hb, hall, hno => by
    obtain rfl : b = a := by omega
    rw [memF_yes m b (hall b (Nat.le_refl _) (Nat.le_refl _))]
    refine grp_alone b _ fun x hx => ?_
    rw [memF_no m (b + 1) hno] at hx
    exact (memF_ge m _ x hx).1
  | d + 1, a, b, hb, hall, hno => by
    rw [memF_yes m a (hall a (Nat.le_refl _) (by omega))]
    exact grp_join a b _ _ (grp_run m d (a + 1) b (by omega) (fun i h1 h2 => hall i (by omega) h2) hno)
def rtext (p : Nat × Nat) : List UInt8 := if p.1 < p.2 then Lib.decDigits p.1 ++ 45 :: Lib.decDigits p.2 else Lib.decDigits p.1
def rtextS (p : Nat × Nat) : ByteArray := ⟨(rtext p).toArray⟩
theorem rtextS_one (a : Nat) : rtextS (a, a) = decS a := by unfold rtextS rtext decS; simp
theorem rtextS_two (a b : Nat) (h : a < b) : rtextS (a, b) = decS a ++ (⟨#[45]⟩ ++ decS b) := by
  unfold rtextS rtext decS; rw [if_pos h]
  apply ByteArray.ext; simp
theorem dec_len2 (n : Nat) (h : n < 100) : (Lib.decDigits n).length ≤ 2 := by rw [Lib.decDigits_length]; exact nd_le 1 n h
theorem decS_size2 (n : Nat) (h : n < 100) : (decS n).size ≤ 2 := by
  have : (decS n).size = (Lib.decDigits n).length := by show (Lib.decDigits n).toArray.size = _; simp
  rw [this]; exact dec_len2 n h
/-- The text of a set. -/
def maskS (m : Nat) : ByteArray :=
  if m % 4294967296 = 4294967295 then ⟨#[97, 108, 108]⟩ else if m % 4294967296 = 0 then ⟨#[110, 111, 110, 101]⟩
  else ⟨(Lib.join ((grp (memF m 0)).map rtext) [44]).toArray⟩
end Go.Proofs.YtollifnnpihfdaaGreatDoor
/- Reading the text of a set: plain facts, with no program in sight. -/
namespace Go.Proofs.YtollifnnpihfdaaGreatDoor
/-- The first byte c of a text. -/
theorem ib_spec (c : UInt8) : ∀ l : List UInt8, (Lib.indexByte l c = -1 ∧ ∀ x ∈ l, x ≠ c) ∨ (∃ i : Nat, Lib.indexByte l c = (i : Int) ∧ i < l.length ∧ l = l.take i ++ c :: l.drop (i + 1) ∧ ∀ x ∈ l.take i, x ≠ c)
  | [] => .inl ⟨rfl, by simp⟩
  | b :: l => by
    by_cases h : b = c
    · subst h
      exact .inr ⟨0, by simp [Lib.indexByte], by simp, by simp, by simp⟩
    · have hb : (b == c) = false := by simpa using h
      rcases ib_spec c l with ⟨h1, h2⟩ | ⟨i, h1, h2, h3, h4⟩
      · refine .inl ⟨by simp [Lib.indexByte, hb, h1], ?_⟩
        intro x hx
        rcases List.mem_cons.1 hx with rfl | hx
        · exact h
        · exact h2 x hx
      · have hi : ((i : Int) == -1) = false := by rw [beq_eq_false_iff_ne]; omega
        refine .inr ⟨i + 1, by simp [Lib.indexByte, hb, h1, hi], by simp; omega, ?_, ?_⟩
        · simp only [List.take_succ_cons, List.drop_succ_cons, List.cons_append]
          rw [← h3]
        · intro x hx
          rw [List.take_succ_cons] at hx
          rcases List.mem_cons.1 hx with rfl | hx
          · exact h
          · exact h4 x hx
def digC (c : UInt8) : Bool := decide (48 ≤ c.toNat) && decide (c.toNat ≤ 57)
def valN (l : List UInt8) : Nat := l.foldl (fun v c => 10 * v + (c.toNat - 48)) 0
theorem valN_snoc (l : List UInt8) (c : UInt8) : valN (l ++ [c]) = 10 * valN l + (c.toNat - 48) := by simp [valN, List.foldl_append]
theorem valN_fold (l : List UInt8) : ∀ (v : Nat), l.all digC = true → l.foldl (fun v c => 10 * v + (c.toNat - 48)) v < (v + 1) * 10 ^ l.length := by
  induction l with
  | nil => intro v _; simp
  | cons c l ih =>
    intro v h
    simp only [List.all_cons, Bool.and_eq_true] at h
    have h1 := h.1
    unfold digC at h1
    simp at h1
    have := ih (10 * v + (c.toNat - 48)) h.2
    simp only [List.foldl_cons, List.length_cons]
    have e : (10 * v + (c.toNat - 48) + 1) * 10 ^ l.length ≤ (v + 1) * 10 ^ (l.length + 1) := by
      rw [Nat.pow_succ, Nat.mul_comm (10 ^ l.length) 10, ← Nat.mul_assoc]
      exact Nat.mul_le_mul_right _ (by omega)
    omega
theorem valN_le (l : List UInt8) (h : l.all digC = true) (hl : l.length ≤ 4) : valN l ≤ 9999 := by
  have h1 := valN_fold l 0 h
  have h2 : 10 ^ l.length ≤ 10 ^ 4 := Nat.pow_le_pow_right (by omega) hl
  have e : (10 : Nat) ^ 4 = 10000 := by decide
  rw [e] at h2
  unfold valN
  omega
/-- The first part of the test: the length, and the first digit. -/
def shapeN (l : List UInt8) : Bool := decide (1 ≤ l.length) && decide (l.length ≤ 4) && !(l.head? == some 48 && decide (1 < l.length))
/-- A decimal number of one to four digits, without leading zeros. -/
def num4 (s : ByteArray) : Option Nat := if shapeN s.data.toList && s.data.toList.all digC then some (valN s.data.toList) else none
theorem num4_le {s : ByteArray} {n : Nat} (h : num4 s = some n) : n ≤ 9999 := by
  unfold num4 at h
  split at h
  · rename_i hc
    simp only [Bool.and_eq_true] at hc
    have h2 := hc.1
    unfold shapeN at h2
    simp only [Bool.and_eq_true, decide_eq_true_eq] at h2
    have := valN_le _ hc.2 h2.1.2
    have e := Option.some.inj h
    omega
  · cases h
theorem num4_no (s : ByteArray) (c : UInt8) (h : c ∈ s.data.toList) (hc : digC c = false) : num4 s = none := by
  unfold num4
  have : s.data.toList.all digC = false := by
    rw [← Bool.not_eq_true]; intro ha
    have := List.all_eq_true.1 ha c h
    rw [hc] at this; cases this
  rw [this]; simp
/-- The pieces of a text that is cut at each byte c. -/
def piecesOf (c : UInt8) (s : ByteArray) : List ByteArray := Lib.splitB ⟨#[c]⟩ 0 (Lib.countB s ⟨#[c]⟩) s
theorem isW_pieces (c : UInt8) (s : ByteArray) : IsW c s (piecesOf c s) := isW_split c _ s rfl
theorem pieces_of {c : UInt8} {s : ByteArray} {L : List ByteArray} (h : IsW c s L) : piecesOf c s = L := (isW_pieces c s).unique h
theorem pieces_one {c : UInt8} {s : ByteArray} (h : ∀ x ∈ s.data.toList, x ≠ c) : piecesOf c s = [s] :=
  pieces_of ⟨by simp, fun x hx => by rw [List.mem_singleton.1 hx]; exact h, by simp [joinL, Lib.joinTail]⟩
theorem isW_cons {c : UInt8} {s a b : ByteArray} {L : List ByteArray} (h : s.data.toList = a.data.toList ++ c :: b.data.toList) (ha : NoC c a) (hb : IsW c b L) : IsW c s (a :: L) := by
  obtain ⟨h1, h2, h3⟩ := hb
  cases L with
  | nil => exact absurd rfl h1
  | cons y M =>
    refine ⟨by simp, ?_, by rw [joinL_cons, ← h3, h]⟩
    intro x hx
    rcases List.mem_cons.1 hx with rfl | hx
    · exact ha
    · exact h2 x hx
theorem isW_flat {c : UInt8} : ∀ {D : List ByteArray} {s r : ByteArray} {L : List ByteArray}, flatC c D ++ r.data.toList = s.data.toList → (∀ d ∈ D, NoC c d) → IsW c r L → IsW c s (D ++ L)
  | [], s, r, L, h, _, k => by
    have : r = s := data_inj (by simpa [flatC] using h)
    rw [← this]; exact k
  | d :: D, s, r, L, h, hd, k => by
    have e : flatC c (d :: D) = d.data.toList ++ c :: flatC c D := by simp [flatC]
    have h2 := isW_flat (D := D) (s := ⟨(flatC c D ++ r.data.toList).toArray⟩) (r := r) (L := L) (by simp) (fun x hx => hd x (List.mem_cons_of_mem _ hx)) k
    refine isW_cons (b := ⟨(flatC c D ++ r.data.toList).toArray⟩) ?_ (hd d List.mem_cons_self) h2
    rw [← h, e]; simp
theorem flatC_snoc (c : UInt8) (D : List ByteArray) (x : ByteArray) : flatC c (D ++ [x]) = flatC c D ++ (x.data.toList ++ [c]) := by simp [flatC]
/-- An item N or N-M. -/
def spanL : List ByteArray → Option (Nat × Nat)
  | [x] => (num4 x).map fun n => (n, n)
  | [x, y] => match num4 x, num4 y with
    | some a, some b => if a ≤ b then some (a, b) else none
    | _, _ => none
  | _ => none
def spanS (s : ByteArray) : Option (Nat × Nat) := spanL (piecesOf 45 s)
theorem spanL_le {L : List ByteArray} {a b : Nat} (h : spanL L = some (a, b)) : a ≤ b ∧ b ≤ 9999 := by
  unfold spanL at h
  split at h
  · rename_i x
    cases hx : num4 x with
    | none => rw [hx] at h; cases h
    | some n =>
      rw [hx] at h
      have := num4_le hx
      simp at h
      omega
  · rename_i x y
    split at h
    · rename_i p q hp hq
      split at h
      · injection h with h; injection h with h1 h2
        have := num4_le hq
        omega
      · cases h
    · cases h
  · cases h
/-- The members of an item, added to a set. -/
def orR (m a b : Nat) : Nat := (List.range' a (b + 1 - a)).foldl (fun m n => m ||| 2 ^ n) m
def greatB (x : ByteArray) : Bool := match spanS x with
  | some (_, b) => decide (32 ≤ b)
  | none => false
def badB (x : ByteArray) : Bool := (spanS x).isNone
def stepM (m : Nat) (x : ByteArray) : Nat := match spanS x with
  | some (a, b) => if 32 ≤ b then m else orR m a b
  | none => m
def accM (L : List ByteArray) : Nat := L.foldl stepM 0
theorem accM_snoc (L : List ByteArray) (x : ByteArray) : accM (L ++ [x]) = stepM (accM L) x := by simp [accM, List.foldl_append]
def txAll : ByteArray := ⟨#[97, 108, 108]⟩
def txNone : ByteArray := ⟨#[110, 111, 110, 101]⟩
def readL (L : List ByteArray) : Nat × Int := if L.any badB then (0, 11) else if L.any greatB then (0, 10) else (accM L, 0)
def readM (s : ByteArray) : Nat × Int := if s = txAll then (4294967295, 0) else if s = txNone then (0, 0) else readL (piecesOf 44 s)
theorem orR_succ (m a k : Nat) (h : a ≤ k) : orR m a k = (List.range' a (k - a)).foldl (fun m n => m ||| 2 ^ n) m ||| 2 ^ k := by
  unfold orR
  rw [show k + 1 - a = (k - a) + 1 by omega, List.range'_concat, List.foldl_append]
  simp
  congr 2; omega
theorem or_pow_lt {m n : Nat} (hm : m < 4294967296) (hn : n < 32) : m ||| 2 ^ n < 4294967296 := or_lt hm hn
theorem orF_lt : ∀ (l : List Nat) (m : Nat), m < 4294967296 → (∀ x ∈ l, x < 32) → l.foldl (fun m n => m ||| 2 ^ n) m < 4294967296
  | [], m, h, _ => h
  | x :: l, m, h, k => orF_lt l _ (or_lt h (k x List.mem_cons_self)) (fun y hy => k y (List.mem_cons_of_mem _ hy))
theorem orR_lt {m a b : Nat} (hm : m < 4294967296) (hb : b < 32) : orR m a b < 4294967296 := orF_lt _ _ hm fun x hx => by have := List.mem_range'_1.1 hx; omega
theorem stepM_lt {m : Nat} (x : ByteArray) (h : m < 4294967296) : stepM m x < 4294967296 := by
  unfold stepM
  split
  · split
    · exact h
    · exact orR_lt h (by omega)
  · exact h
theorem foldM_lt : ∀ (L : List ByteArray) (m : Nat), m < 4294967296 → L.foldl stepM m < 4294967296
  | [], _, h => h
  | x :: L, m, h => foldM_lt L _ (stepM_lt x h)
theorem accM_lt (L : List ByteArray) : accM L < 4294967296 := foldM_lt L 0 (by omega)
theorem readM_lt (s : ByteArray) : (readM s).1 < 4294967296 := by
  unfold readM readL
  repeat' split
  all_goals first | exact accM_lt _ | decide
/-- What the reference collects. -/
def nums (x : ByteArray) : List Nat := match spanS x with
  | some (a, b) => List.range' a (min (b + 1) 32 - a)
  | none => []
theorem nums_lt (x : ByteArray) : ∀ n ∈ nums x, n < 32 := by
  intro n hn
  unfold nums at hn
  split at hn
  · have := List.mem_range'_1.1 hn; omega
  · cases hn
theorem nums_len (x : ByteArray) : (nums x).length ≤ 32 := by
  unfold nums
  split
  · simp; omega
  · simp
def orL (l : List Nat) (m : Nat) : Nat := l.foldl (fun m n => m ||| 2 ^ n) m
theorem step_nums (m : Nat) (x : ByteArray) (h : greatB x = false) : stepM m x = orL (nums x) m := by
  unfold stepM nums orL greatB at *
  split at h
  · rename_i a b hs
    have hb : ¬ 32 ≤ b := by simpa using h
    rw [if_neg hb]
    unfold orR
    rw [show min (b + 1) 32 = b + 1 by omega]
  · rfl
theorem acc_nums : ∀ (L : List ByteArray) (m : Nat), L.any greatB = false → L.foldl stepM m = orL (L.flatMap nums) m
  | [], _, _ => rfl
  | x :: L, m, h => by
    simp only [List.any_cons, Bool.or_eq_false_iff] at h
    rw [List.foldl_cons, step_nums m x h.1, acc_nums L _ h.2, List.flatMap_cons]
    unfold orL
    rw [List.foldl_append]
theorem orN_nat (l : List Nat) : orN (l.map Int.ofNat) = orL l 0 := by
  unfold orN orL
  rw [List.foldl_map]
  rfl
theorem out_nat (l : List Nat) (h : ∀ n ∈ l, n < 32) : (l.map Int.ofNat).any outB = false := by
  rw [List.any_map, ← Bool.not_eq_true]
  intro ha
  obtain ⟨n, hn, ho⟩ := List.any_eq_true.1 ha
  have := h n hn
  simp only [Function.comp_apply, outB, Int.ofNat_eq_natCast] at ho
  simp at ho
  omega
theorem flat_lt (L : List ByteArray) : ∀ n ∈ L.flatMap nums, n < 32 := fun n hn => by
  obtain ⟨x, _, hx⟩ := List.mem_flatMap.1 hn
  exact nums_lt x n hx
theorem flat_len : ∀ L : List ByteArray, (L.flatMap nums).length ≤ 32 * L.length
  | [] => by simp
  | x :: L => by
    rw [List.flatMap_cons, List.length_append, List.length_cons]
    have := flat_len L
    have := nums_len x
    omega
end Go.Proofs.YtollifnnpihfdaaGreatDoor
/- Format of package mask returns maskS. -/
namespace Go.Proofs.YtollifnnpihfdaaGreatDoor
open Go.RowKit
theorem Tryz.info9 : (Tryz.prog.info? 9).map (fun i => (i.zero, i.size, i.bytes)) = some (some (.string ⟨#[]⟩), 1, 16) := by kernel_rfl
theorem and_low (m : Nat) (hm : m < 18446744073709551616) : bits .and .u64 (m : Int) 4294967295 = ((m % 4294967296 : Nat) : Int) := by
  rw [show (4294967295 : Int) = ((4294967295 : Nat) : Int) from rfl, u64_and_nat m 4294967295 hm (by omega)]
  rw [show (4294967295 : Nat) = 2 ^ 32 - 1 from rfl, Nat.and_two_pow_sub_one_eq_mod]
theorem has_mod (m : Nat) (h : m % 4294967296 ≠ 0) : memF m 0 ≠ [] := by
  intro he
  apply h
  apply Nat.eq_of_testBit_eq
  intro i
  rw [Nat.zero_testBit, show (4294967296 : Nat) = 2 ^ 32 from rfl, Nat.testBit_mod_two_pow]
  by_cases hi : i < 32
  · have : i ∉ memF m 0 := by rw [he]; simp
    unfold memF at this
    rw [List.mem_filter] at this
    unfold hasN at this
    simp [hi] at this
    simp [this]
  · simp [hi]
theorem grp_ne {l : List Nat} (h : l ≠ []) : grp l ≠ [] := by
  cases l with
  | nil => exact absurd rfl h
  | cons a l =>
    unfold grp
    split
    · simp
    · split <;> simp
theorem vitoa_small (i : Nat) (hi : i < 100) (w : World) : Calls Tryz.prog 93 #[.int .i64 (i : Int)] w fun e w' => e = .returned (.string (decS i)) ∧ w = w' :=
  (Tryz.strconv_Itoa_small i hi w).mono fun _ _ h => ⟨h.1, h.2.symm⟩
theorem one_run {m k : Nat} (h : hasN m k = true) : ∀ i, k ≤ i → i ≤ k → hasN m i = true := fun i h1 h2 => by
  obtain rfl : i = k := by omega
  exact h
/-- The runs that have been written, and those to come. -/
def RunsLeft (m k : Nat) (R : List (Nat × Nat)) : Prop := R ++ grp (memF m k) = grp (memF m 0)
theorem runs_next {m k l : Nat} {R : List (Nat × Nat)} (h : RunsLeft m k R) (hg : grp (memF m k) = (k, l) :: grp (memF m (l + 1))) : RunsLeft m (l + 1) (R ++ [(k, l)]) := by
  unfold RunsLeft at *
  rw [← h, hg]; simp
theorem grp_small : ∀ {l : List Nat}, (∀ x ∈ l, x < 32) → ∀ p ∈ grp l, p.1 < 32 ∧ p.2 < 32
  | [], _, p, hp => by cases hp
  | a :: l, h, p, hp => by
    have ih := grp_small (l := l) (fun x hx => h x (List.mem_cons_of_mem _ hx))
    have ha := h a List.mem_cons_self
    unfold grp at hp
    split at hp
    · simp at hp; subst hp; exact ⟨ha, ha⟩
    · rename_i b c r hg
      have hbc := ih (b, c) (by rw [hg]; exact List.mem_cons_self)
      split at hp
      · rcases List.mem_cons.1 hp with rfl | hp
        · exact ⟨ha, hbc.2⟩
        · exact ih p (by rw [hg]; exact List.mem_cons_of_mem _ hp)
      · rcases List.mem_cons.1 hp with rfl | hp
        · exact ⟨ha, ha⟩
        · exact ih p (by rw [hg]; exact hp)
theorem rtext_len (p : Nat × Nat) (h : p.1 < 32 ∧ p.2 < 32) : (rtext p).length ≤ 5 := by
  have h1 := dec_len2 p.1 (by omega)
  have h2 := dec_len2 p.2 (by omega)
  unfold rtext; split
  · simp; omega
  · omega
theorem join_len : ∀ (xs : List (List UInt8)), (∀ x ∈ xs, x.length ≤ 5) → (Lib.join xs [44]).length ≤ 6 * xs.length
  | [], _ => by simp [Lib.join_nil]
  | [x], h => by rw [Lib.join_one]; have := h x List.mem_cons_self; simp; omega
  | x :: y :: r, h => by
    have ih := join_len (y :: r) (fun z hz => h z (List.mem_cons_of_mem _ hz))
    have hx := h x List.mem_cons_self
    have e : Lib.join (x :: y :: r) [44] = x ++ [44] ++ Lib.join (y :: r) [44] := by simp [Lib.join, List.intercalate]
    rw [e]; simp at ih ⊢; omega
theorem vjoin (g cap : Nat) (R : List (Nat × Nat)) (w : World) {base : Nat} (hown : w.ownsRow base 9 1 (.slice (some ⟨g, 0, none⟩) R.length cap) R.length (R.map fun p => .string (rtextS p))) (_hb : base ≤ w.heap.size) (hR : R.length ≤ 32) (hs : ∀ p ∈ R, p.1 < 32 ∧ p.2 < 32) :
    Calls Tryz.prog 124 #[.slice (some ⟨g, 0, none⟩) R.length cap, .string ⟨#[44]⟩] w fun e w' => e = .returned (.string ⟨(Lib.join (R.map rtext) [44]).toArray⟩) ∧ Below w.heap.size w w' := by
  have hcap : R.length ≤ cap := by
    rcases hown.2 with ⟨h, _⟩ | ⟨g', cap', cur, h, _, _, hnc, _⟩
    · simp at h
    · injection h with _ _ h; omega
  have hg := (hown.lt g rfl).2
  have hj := Tryz.strings_Join g 0 cap (R.map rtextS) ⟨#[44]⟩ w (fun j x hx => by
      rw [Nat.zero_add]
      have hj : j < R.length := by have := (List.getElem?_eq_some_iff.1 hx).1; simpa using this
      rw [hown.cellAt j (by omega), List.getElem?_map]
      rw [List.getElem?_map] at hx
      cases hr : R[j]? with
      | none => rw [hr] at hx; cases hx
      | some p => rw [hr] at hx; injection hx with hx; subst hx; rfl) hg (by simp; omega) (by simpa using hcap) (by
      have e : ((R.map rtextS).map (·.data.toList)) = R.map rtext := by rw [List.map_map]; rfl
      rw [e]
      have := join_len (R.map rtext) (fun x hx => by obtain ⟨p, hp, rfl⟩ := List.mem_map.1 hx; exact rtext_len p (hs p hp))
      rw [List.length_map] at this
      show (Lib.join (R.map rtext) [44]).length ≤ _
      omega)
  have e : ((R.map rtextS).map (·.data.toList)) = R.map rtext := by rw [List.map_map]; rfl
  rw [List.length_map, e] at hj
  exact hj
attribute [local irreducible] decS rtextS
set_option maxRecDepth 100000 in
set_option maxHeartbeats 2000000 in
theorem vmfmt_mid (m : Nat) (w : World) (hm : m < 18446744073709551616) (h0 : m % 4294967296 ≠ 0) (h1 : m % 4294967296 ≠ 4294967295) :
    Calls Tryz.prog 120 #[.int .u64 (m : Int)] w fun e w' => e = .returned (.string (maskS m)) ∧ Below w.heap.size w w' := by
  obtain ⟨j0, hj, hz0, hz1, hz2⟩ := info_parts Tryz.info9
  have HA := Lib.hid (and_low m hm)
  have ha : bits .and .u64 (m : Int) 4294967295 = ((m % 4294967296 : Nat) : Int) := HA.out
  obtain ⟨q, hq⟩ : ∃ q : Nat, q = m % 4294967296 := ⟨_, rfl⟩
  rw [← hq] at ha h0 h1
  have b1 : ((q : Int) == 4294967295) = false := by simp; omega
  have b2 : ((q : Int) == 0) = false := by simp; omega
  have HQ := Lib.hid hq
  have HM := Lib.hid hm
  clear hq hm h0 h1
  go_enter Tryz.func120, Tryz.ntmps120
  go_wp2_with fail
  go_loopw [3, 4] (fun v i wr => ∃ (k : Nat) (R : List (Nat × Nat)), k ≤ 32 ∧ i = .int .i64 (k : Int) ∧ R.length ≤ k ∧ wr.ownsRow w.heap.size 9 1 v R.length (R.map fun p => .string (rtextS p)) ∧ Below w.heap.size w wr ∧ Hid (RunsLeft m k R)) (fun _ i _ => 32 - (intOf i).toNat)
  case atStart => exact ⟨0, [], by omega, rfl, by simp, World.ownsRow_nil _ _ _ _, Below.refl _ _, by exact rfl⟩
  case round =>
    obtain ⟨k, R, hk, rfl, hR, hown, hb, hleft⟩ := hrel
    by_cases hlt : k < 32
    · go_wp2_with fail
      refine (vhas m _ _ HM.out).mono ?_
      rintro e w' ⟨rfl, rfl⟩
      rw [hasB_nat]
      cases hh : hasN m k
      · have HL := Lib.hid (show RunsLeft m (k + 1) R by have := hleft.out; unfold RunsLeft at *; rw [← memF_no m k hh]; exact this)
        clear hh
        go_wp2_with fail
        go_roundw
        case rel => exact ⟨k + 1, R, by omega, by go_num, by omega, hown, hb, HL⟩
        case measure => simp [intOf]; omega
      · have HH := Lib.hid hh
        clear hh
        go_wp2_with fail
        obtain ⟨wo, rfl⟩ : ∃ wo : World, wo = wr := ⟨_, rfl⟩
        go_loop [5] (fun x => ∃ l : Nat, k ≤ l ∧ l < 32 ∧ x = .int .i64 (l : Int) ∧ Hid (∀ i, k ≤ i → i ≤ l → hasN m i = true)) (fun x => 32 - (intOf x).toNat)
        case atStart => exact ⟨k, by omega, hlt, rfl, one_run HH.out⟩
        case round =>
          obtain ⟨l, hkl, hl32, rfl, hall⟩ := hrel
          go_wp2_with fail
          refine (vhas m _ _ HM.out).mono ?_
          rintro e w' ⟨rfl, rfl⟩
          rw [show ((l : Int) + 1) = ((l + 1 : Nat) : Int) by omega, hasB_nat]
          cases hn : hasN m (l + 1)
          · have HG := Lib.hid (grp_run m (l - k) k l (by omega) hall.out hn)
            clear hn
            have hz1' := decS_size2 k (by omega)
            have hz2' := decS_size2 l (by omega)
            have hownS := Lib.hid hown
            by_cases hkl2 : k < l
            · have hT := Lib.hid (rtextS_two k l hkl2)
              go_wp2_with fail
              refine (vitoa_small k (by omega) _).mono ?_
              rintro e w' ⟨rfl, rfl⟩
              go_wp2_with fail
              refine (vitoa_small l (by omega) _).mono ?_
              rintro e w' ⟨rfl, rfl⟩
              go_wp2_with (at_builtin; refine wpList_append_own _ rfl _ _ 49 rfl w.heap.size 9 j0 _ 1 16 Tryz.underlying49 hj hz0 hz1 hz2 rfl (by omega) _ _ _ rfl (hown.alloc _) ⟨wo.heap.size, 0, none⟩ 1 1 [.string (decS k ++ (⟨#[45]⟩ ++ decS l))] rfl rfl (cell_one_new _ _ _) (by simp [Value.oneCell']) (by unfold maxLen; omega) (by omega) (by have := hb.size; simp; omega) ?_; intro v2 w2 hown2 hg2 _)
              have hb2 : Below w.heap.size w w2 := below_grown_own (hb.alloc hb.size _) hown (Nat.le_refl _) hg2 (by have := hb.size; simp; omega)
              clear hg2
              go_roundw
              case rel => exact ⟨l + 1, R ++ [(k, l)], by omega, by go_num, by simp; omega, by simpa [hT.out] using hown2, hb2, runs_next hleft.out HG.out⟩
              case measure => simp [intOf]; omega
            · obtain rfl : l = k := by omega
              go_wp2_with fail
              refine (vitoa_small l (by omega) _).mono ?_
              rintro e w' ⟨rfl, rfl⟩
              go_wp2_with (at_builtin; refine wpList_append_own _ rfl _ _ 49 rfl w.heap.size 9 j0 _ 1 16 Tryz.underlying49 hj hz0 hz1 hz2 rfl (by omega) _ _ _ rfl (hown.alloc _) ⟨wo.heap.size, 0, none⟩ 1 1 [.string (decS l)] rfl rfl (cell_one_new _ _ _) (by simp [Value.oneCell']) (by unfold maxLen; omega) (by omega) (by have := hb.size; simp; omega) ?_; intro v2 w2 hown2 hg2 _)
              have hb2 : Below w.heap.size w w2 := below_grown_own (hb.alloc hb.size _) hown (Nat.le_refl _) hg2 (by have := hb.size; simp; omega)
              clear hg2
              go_roundw
              case rel => exact ⟨l + 1, R ++ [(l, l)], by omega, by go_num, by simp; omega, by simpa [rtextS_one] using hown2, hb2, runs_next hleft.out HG.out⟩
              case measure => simp [intOf]; omega
          · have HX := Lib.hid hn
            have hl' := hasN_lt hn
            clear hn
            go_wp2_with fail
            go_round
            case rel => exact ⟨l + 1, by omega, by omega, by go_num, fun i h1 h2 => by
              by_cases hi : i = l + 1
              · subst hi; exact HX.out
              · exact hall.out i h1 (by omega)⟩
            case measure => simp [intOf]; omega
    · obtain rfl : k = 32 := by omega
      have hRg : R = grp (memF m 0) := by have := hleft.out; unfold RunsLeft at this; rw [memF_end m 32 (by omega)] at this; simpa [grp] using this
      have hR0 : 0 < R.length := List.length_pos_iff.2 (by rw [hRg]; exact grp_ne (has_mod m (by have := HQ.out; have := b2; simp at this; omega)))
      obtain ⟨g, cap, hv⟩ := Joins.ownsRow_form hown hR0
      subst hv
      have hj0 := Lib.hid (vjoin g cap R wr hown hb.size (by omega) (fun p hp => by rw [hRg] at hp; exact grp_small (fun x hx => (memF_ge m 0 x hx).2) p hp))
      have HR := Lib.hid (show (⟨(Lib.join (R.map rtext) [44]).toArray⟩ : ByteArray) = maskS m by
        have e1 := HQ.out
        unfold maskS
        rw [if_neg (by rw [← e1]; have := b1; simp at this; omega), if_neg (by rw [← e1]; have := b2; simp at this; omega), hRg])
      clear hown hleft hRg
      go_wp2_with fail
      refine hj0.out.mono ?_
      rintro e w' ⟨rfl, hb'⟩
      rw [HR.out]
      go_wp2_with fail
      go_ret
      exact ⟨rfl, hb.trans (hb'.mono hb.size)⟩
set_option maxHeartbeats 400000 in
theorem vmfmt (m : Nat) (w : World) (hm : m < 18446744073709551616) :
    Calls Tryz.prog 120 #[.int .u64 (m : Int)] w fun e w' => e = .returned (.string (maskS m)) ∧ Below w.heap.size w w' := by
  by_cases h0 : m % 4294967296 = 0
  · have H := Lib.hid (show maskS m = ⟨#[110, 111, 110, 101]⟩ by unfold maskS; rw [if_neg (by omega), if_pos h0])
    have ha := and_low m hm
    rw [h0] at ha
    clear h0 hm
    go_enter Tryz.func120, Tryz.ntmps120
    go_wp2
    go_ret
    exact ⟨retS H.out.symm, Below.refl _ _⟩
  · by_cases h1 : m % 4294967296 = 4294967295
    · have H := Lib.hid (show maskS m = ⟨#[97, 108, 108]⟩ by unfold maskS; rw [if_pos h1])
      have ha := and_low m hm
      rw [h1] at ha
      clear h0 h1 hm
      go_enter Tryz.func120, Tryz.ntmps120
      go_wp2
      go_ret
      exact ⟨retS H.out.symm, Below.refl _ _⟩
    · exact vmfmt_mid m w hm h0 h1
end Go.Proofs.YtollifnnpihfdaaGreatDoor

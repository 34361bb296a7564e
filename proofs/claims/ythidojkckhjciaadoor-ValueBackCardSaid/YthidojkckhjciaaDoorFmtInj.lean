/- Different pairs have different texts: plain facts, with no walk. -/
import Derived.Test.YthidojkckhjciaaDoorFormat
namespace Go.Proofs.YthidojkckhjciaaDoor
/-- The number that decimal digits say. -/
def valD (l : List UInt8) : Nat := l.foldl (fun v c => 10 * v + (c.toNat - 48)) 0
theorem valD_snoc (l : List UInt8) (c : UInt8) : valD (l ++ [c]) = 10 * valD l + (c.toNat - 48) := by simp [valD, List.foldl_append]
def digB (c : UInt8) : Bool := decide (48 ≤ c.toNat) && decide (c.toNat ≤ 57)
theorem dig_nat (d : Nat) (h : d < 10) : (UInt8.ofNat (48 + d)).toNat = 48 + d := by rw [UInt8.toNat_ofNat']; omega
theorem dec_props (u : Nat) : valD (Lib.decDigits u) = u ∧ (Lib.decDigits u).all digB = true ∧ Lib.decDigits u ≠ [] := by
  induction u using Nat.strongRecOn with
  | _ u ih =>
    by_cases h : u < 10
    · rw [Lib.decDigits_one h]
      refine ⟨?_, ?_, by simp⟩
      · simp [valD]; omega
      · simp [digB]; omega
    · have := ih (u / 10) (by omega)
      rw [Lib.decDigits, dif_neg h]
      refine ⟨?_, ?_, by simp⟩
      · rw [valD_snoc, this.1, dig_nat _ (by omega)]; omega
      · rw [List.all_append, this.2.1]
        simp [digB]; omega
theorem dec_inj {u v : Nat} (h : Lib.decDigits u = Lib.decDigits v) : u = v := by rw [← (dec_props u).1, h, (dec_props v).1]
theorem dec_head (u : Nat) : ∃ c r, Lib.decDigits u = c :: r ∧ 48 ≤ c.toNat ∧ c.toNat ≤ 57 := by
  obtain ⟨_, h2, h3⟩ := dec_props u
  cases hl : Lib.decDigits u with
  | nil => exact absurd hl h3
  | cons c r =>
    rw [hl] at h2
    simp [digB] at h2
    exact ⟨c, r, rfl, h2.1.1, h2.1.2⟩
theorem itoa_inj {m n : Int} (h : Lib.itoa m = Lib.itoa n) : m = n := by
  unfold Lib.itoa at h
  split at h <;> split at h
  · injection h with _ h
    have := dec_inj h; omega
  · obtain ⟨c, r, e, h1, h2⟩ := dec_head n.toNat
    rw [e] at h; injection h with h _; rw [← h] at h1; simp at h1
  · obtain ⟨c, r, e, h1, h2⟩ := dec_head m.toNat
    rw [e] at h; injection h with h _; rw [h] at h1; simp at h1
  · have := dec_inj h; omega
theorem itoa_head (n : Int) : ∃ c r, Lib.itoa n = c :: r ∧ (c.toNat = 45 ∨ (48 ≤ c.toNat ∧ c.toNat ≤ 57)) := by
  unfold Lib.itoa; split
  · exact ⟨45, _, rfl, .inl rfl⟩
  · obtain ⟨c, r, e, h1, h2⟩ := dec_head n.toNat
    exact ⟨c, r, e, .inr ⟨h1, h2⟩⟩
theorem quoteL_head (l : List UInt8) : ∃ c r, quoteL l = c :: r ∧ (c.toNat = 34 ∨ c.toNat = 120) := by
  unfold quoteL; split
  · exact ⟨34, _, rfl, .inl rfl⟩
  · exact ⟨120, _, rfl, .inr rfl⟩
theorem split_eq : ∀ {a b t u : List UInt8}, (∀ c ∈ a, c ≠ 61) → (∀ c ∈ b, c ≠ 61) → a ++ 61 :: t = b ++ 61 :: u → a = b ∧ t = u
  | [], [], t, u, _, _, h => by simpa using h
  | [], y :: b, t, u, _, hb, h => by
    simp at h
    exact absurd h.1.symm (hb y List.mem_cons_self)
  | x :: a, [], t, u, ha, _, h => by
    simp at h
    exact absurd h.1 (ha x List.mem_cons_self)
  | x :: a, y :: b, t, u, ha, hb, h => by
    simp only [List.cons_append, List.cons.injEq] at h
    obtain ⟨h1, h2⟩ := split_eq (fun c hc => ha c (List.mem_cons_of_mem _ hc)) (fun c hc => hb c (List.mem_cons_of_mem _ hc)) h.2
    exact ⟨by rw [h.1, h1], h2⟩
theorem name_no_eq {s : ByteArray} (h : nameB s.data.toList = true) : ∀ c ∈ s.data.toList, c ≠ 61 := by
  intro c hc e
  have h0 := (name_size h).2
  rw [name_eq s h0] at h
  simp only [Bool.and_eq_true] at h
  have := List.all_eq_true.1 h.2 c hc
  rw [e] at this; exact absurd this (by decide)
def textL (kd nu : Int) (tx : ByteArray) : List UInt8 := if kd = 1 then Lib.itoa nu else if kd = 2 then quoteL tx.data.toList else [40, 110, 117, 108, 108, 41]
theorem textS_list (kd nu : Int) (tx : ByteArray) (h : tx.size ≤ 640) : (textS kd nu tx).data.toList = textL kd nu tx := by
  unfold textS textL
  split
  · rfl
  · split
    · exact quoteS_list tx h
    · rfl
theorem fmtS_list {nm : ByteArray} {kd nu : Int} {tx : ByteArray} (h : checkE nm kd nu tx = 0) : (fmtS nm kd nu tx).data.toList = nm.data.toList ++ 61 :: textL kd nu tx := by
  have h3 := (checkE_zero h).2.2
  unfold fmtS
  rw [if_pos h, ← textS_list kd nu tx h3]
  simp
theorem bytes_ext {a b : ByteArray} (h : a.data.toList = b.data.toList) : a = b := ByteArray.ext (Array.toList_inj.1 h)
theorem quoteL_inj {a b : ByteArray} (ha : a.size ≤ 640) (hb : b.size ≤ 640) (h : quoteL a.data.toList = quoteL b.data.toList) : a = b := by
  have h1 : Quotes (quoteL b.data.toList) a.data.toList := ⟨h, by rw [Array.length_toList]; exact ha⟩
  have h2 : Quotes (quoteL b.data.toList) b.data.toList := ⟨rfl, by rw [Array.length_toList]; exact hb⟩
  exact bytes_ext (h1.unique h2)
theorem empty_eq {a b : ByteArray} (ha : a.size = 0) (hb : b.size = 0) : a = b := by
  apply bytes_ext
  rw [List.eq_nil_of_length_eq_zero (Array.length_toList.trans ha), List.eq_nil_of_length_eq_zero (Array.length_toList.trans hb)]
theorem textL_inj {kd nu kd' nu' : Int} {tx tx' : ByteArray} (k : ¬ (kd < 1 ∨ 3 < kd ∨ (kd ≠ 1 ∧ nu ≠ 0) ∨ (kd ≠ 2 ∧ tx.size ≠ 0))) (k' : ¬ (kd' < 1 ∨ 3 < kd' ∨ (kd' ≠ 1 ∧ nu' ≠ 0) ∨ (kd' ≠ 2 ∧ tx'.size ≠ 0)))
    (l : tx.size ≤ 640) (l' : tx'.size ≤ 640) (h : textL kd nu tx = textL kd' nu' tx') : kd = kd' ∧ nu = nu' ∧ tx = tx' := by
  have hc : kd = 1 ∨ kd = 2 ∨ kd = 3 := by omega
  have hc' : kd' = 1 ∨ kd' = 2 ∨ kd' = 3 := by omega
  obtain ⟨c1, r1, e1, p1⟩ := itoa_head nu
  obtain ⟨c2, r2, e2, p2⟩ := itoa_head nu'
  obtain ⟨d1, s1, f1, q1⟩ := quoteL_head tx.data.toList
  obtain ⟨d2, s2, f2, q2⟩ := quoteL_head tx'.data.toList
  rcases hc with rfl | rfl | rfl <;> rcases hc' with rfl | rfl | rfl <;> simp only [textL] at h
  · have h' : Lib.itoa nu = Lib.itoa nu' := by simpa using h
    exact ⟨rfl, itoa_inj h', empty_eq (by omega) (by omega)⟩
  · simp at h; rw [e1, f2] at h; injection h with h _; rw [h] at p1; omega
  · simp at h; rw [e1] at h; injection h with h _; rw [h] at p1; simp at p1
  · simp at h; rw [f1, e2] at h; injection h with h _; rw [h] at q1; omega
  · have h' : quoteL tx.data.toList = quoteL tx'.data.toList := by simpa using h
    exact ⟨rfl, by omega, quoteL_inj l l' h'⟩
  · simp at h; rw [f1] at h; injection h with h _; rw [h] at q1; simp at q1
  · simp at h; rw [e2] at h; injection h with h _; rw [← h] at p2; simp at p2
  · simp at h; rw [f2] at h; injection h with h _; rw [← h] at q2; simp at q2
  · exact ⟨rfl, by omega, empty_eq (by omega) (by omega)⟩
theorem fmt_inj {nm nm' : ByteArray} {kd nu kd' nu' : Int} {tx tx' : ByteArray} (h : checkE nm kd nu tx = 0) (h' : checkE nm' kd' nu' tx' = 0) (e : fmtS nm kd nu tx = fmtS nm' kd' nu' tx') : nm = nm' ∧ kd = kd' ∧ nu = nu' ∧ tx = tx' := by
  have e1 := fmtS_list h
  have e2 := fmtS_list h'
  rw [e, e2] at e1
  obtain ⟨a1, a2, a3⟩ := checkE_zero h
  obtain ⟨b1, b2, b3⟩ := checkE_zero h'
  obtain ⟨hn, ht⟩ := split_eq (name_no_eq b1) (name_no_eq a1) e1
  exact ⟨bytes_ext hn.symm, textL_inj a2 b2 a3 b3 ht.symm⟩
end Go.Proofs.YthidojkckhjciaaDoor

/- Reading a test: plain facts. -/
import Derived.Test.YtnpaoepkpdileaaDoorFieldInj
import Derived.Test.YtnpaoepkpdileaaDoorRUnq
import Derived.Test.YtnpaoepkpdileaaDoorAtoiPlain
namespace Go.Proofs.YtnpaoepkpdileaaDoor
/-- No test has the text s. -/
def NoTest (s : ByteArray) : Prop := ∀ fd op nu tx ot, I64 nu → anyE fd op nu tx ot = 0 → testS fd op nu tx ot ≠ s
/-- The test that Format writes as s, with 0; or the zero test with 123. -/
def TIs (s : ByteArray) (fd op nu : Int) (tx : ByteArray) (ot er : Int) : Prop :=
  (er = 0 ∧ anyE fd op nu tx ot = 0 ∧ testS fd op nu tx ot = s ∧ I64 nu) ∨ (er = 123 ∧ fd = 0 ∧ op = 0 ∧ nu = 0 ∧ tx = ⟨#[]⟩ ∧ ot = 0 ∧ NoTest s)
theorem TIs.unique {s : ByteArray} {fd op nu fd' op' nu' : Int} {tx tx' : ByteArray} {ot ot' er er' : Int} (h : TIs s fd op nu tx ot er) (k : TIs s fd' op' nu' tx' ot' er') : er = er' ∧ fd = fd' ∧ op = op' ∧ nu = nu' ∧ tx = tx' ∧ ot = ot' := by
  rcases h with ⟨rfl, h1, h2, h3⟩ | ⟨rfl, rfl, rfl, rfl, rfl, rfl, h4⟩
  · rcases k with ⟨rfl, k1, k2, k3⟩ | ⟨rfl, rfl, rfl, rfl, rfl, rfl, k4⟩
    · exact ⟨rfl, test_inj h1 k1 (h2.trans k2.symm)⟩
    · exact absurd h2 (k4 _ _ _ _ _ h3 h1)
  · rcases k with ⟨rfl, k1, k2, k3⟩ | ⟨rfl, rfl, rfl, rfl, rfl, rfl, k4⟩
    · exact absurd k2 (h4 _ _ _ _ _ k3 k1)
    · exact ⟨rfl, rfl, rfl, rfl, rfl, rfl⟩
/-- The operator that the loop over the operators has found so far. -/
def opAt (rest : List UInt8) : Nat → Nat
  | 0 => 0
  | k + 1 => if (opN (k + 1)).data.toList <+: rest ∧ (opN (opAt rest k)).size < (opN (k + 1)).size then k + 1 else opAt rest k
theorem opAt_le (rest : List UInt8) : ∀ k, opAt rest k ≤ k
  | 0 => Nat.le_refl _
  | k + 1 => by
    unfold opAt
    split
    · exact Nat.le_refl _
    · have := opAt_le rest k; omega
theorem opAt_prefix (rest : List UInt8) : ∀ k, (opN (opAt rest k)).data.toList <+: rest
  | 0 => by unfold opAt; exact List.nil_prefix
  | k + 1 => by
    unfold opAt
    split
    · rename_i h; exact h.1
    · exact opAt_prefix rest k
theorem opc_61 {c : UInt8} (h : opc c = false) : c ≠ 61 := by
  intro e; subst e; revert h; decide
theorem opAt_find {c : UInt8} {r : List UInt8} (hc : opc c = false) : ∀ o : Fin 8, opAt ((opN (o.val + 1)).data.toList ++ c :: r) 8 = o.val + 1 := by
  have h := opc_61 hc
  have h' : (61 : UInt8) ≠ c := fun e => h e.symm
  have l1 : opN 1 = ⟨#[61]⟩ := rfl
  have l2 : opN 2 = ⟨#[33, 61]⟩ := rfl
  have l3 : opN 3 = ⟨#[60]⟩ := rfl
  have l4 : opN 4 = ⟨#[60, 61]⟩ := rfl
  have l5 : opN 5 = ⟨#[62]⟩ := rfl
  have l6 : opN 6 = ⟨#[62, 61]⟩ := rfl
  have l7 : opN 7 = ⟨#[38]⟩ := rfl
  have l8 : opN 8 = ⟨#[38, 61]⟩ := rfl
  have l0 : opN 0 = ⟨#[]⟩ := rfl
  have z0 : (⟨#[]⟩ : ByteArray).size = 0 := rfl
  have z1 : ∀ a : UInt8, (⟨#[a]⟩ : ByteArray).size = 1 := fun _ => rfl
  have z2 : ∀ a b : UInt8, (⟨#[a, b]⟩ : ByteArray).size = 2 := fun _ _ => rfl
  intro o
  match o with
  | ⟨0, _⟩ => simp [opAt, l0, l1, l2, l3, l4, l5, l6, l7, l8, z0, z1, z2, h, h', List.cons_prefix_cons]
  | ⟨1, _⟩ => simp [opAt, l0, l1, l2, l3, l4, l5, l6, l7, l8, z0, z1, z2, h, h', List.cons_prefix_cons]
  | ⟨2, _⟩ => simp [opAt, l0, l1, l2, l3, l4, l5, l6, l7, l8, z0, z1, z2, h, h', List.cons_prefix_cons]
  | ⟨3, _⟩ => simp [opAt, l0, l1, l2, l3, l4, l5, l6, l7, l8, z0, z1, z2, h, h', List.cons_prefix_cons]
  | ⟨4, _⟩ => simp [opAt, l0, l1, l2, l3, l4, l5, l6, l7, l8, z0, z1, z2, h, h', List.cons_prefix_cons]
  | ⟨5, _⟩ => simp [opAt, l0, l1, l2, l3, l4, l5, l6, l7, l8, z0, z1, z2, h, h', List.cons_prefix_cons]
  | ⟨6, _⟩ => simp [opAt, l0, l1, l2, l3, l4, l5, l6, l7, l8, z0, z1, z2, h, h', List.cons_prefix_cons]
  | ⟨7, _⟩ => simp [opAt, l0, l1, l2, l3, l4, l5, l6, l7, l8, z0, z1, z2, h, h', List.cons_prefix_cons]
theorem numF_spec {s : ByteArray} (h : numF s ≠ 0) : (1 ≤ numF s ∧ numF s ≤ 22) ∧ fieldN (numF s).toNat = s := by
  by_cases hx : ∃ k, k < 22 ∧ fieldN (k + 1) = s
  · obtain ⟨k, hk, rfl⟩ := hx
    have H : ∀ k : Fin 22, numF (fieldN (k.val + 1)) = (k.val : Int) + 1 := by decide +kernel
    have e := H ⟨k, hk⟩
    simp only at e
    rw [e]
    refine ⟨by omega, ?_⟩
    have : ((k : Int) + 1).toNat = k + 1 := by omega
    rw [this]
  · exact absurd (numF_none fun j hj e => hx ⟨j, hj, e⟩) h
theorem numF_field {f : Int} (h : 1 ≤ f ∧ f ≤ 22) : numF (fieldN f.toNat) = f := by
  have H : ∀ k : Fin 22, numF (fieldN (k.val + 1)) = (k.val : Int) + 1 := by decide +kernel
  have := H ⟨f.toNat - 1, by omega⟩
  have e : f.toNat - 1 + 1 = f.toNat := by omega
  simp only [e] at this
  rw [this]; omega
theorem field_notx : ∀ k : Fin 22, (fieldN (k.val + 1)).data.toList.head?.map (fun c => decide (c.toNat ≠ 120)) = some true := by decide +kernel
theorem numF_other {s : ByteArray} {c : UInt8} {r : List UInt8} (e : s.data.toList = c :: r) (h : c.toNat < 97 ∨ c.toNat = 120) : numF s = 0 := by
  refine numF_none fun j hj he => ?_
  have h1 := field_head ⟨j, hj⟩
  have h2 := field_notx ⟨j, hj⟩
  simp only [he, e] at h1 h2
  simp at h1 h2
  omega
/-- The value of a test as it is read of the text V. -/
def ReadV (fd : Int) (V : ByteArray) (nu : Int) (tx : ByteArray) (ot : Int) : Prop :=
  (textB fd = true ∧ unqE V = 0 ∧ tx = unqS V ∧ nu = 0 ∧ ot = 0) ∨ (textB fd = false ∧ numF V ≠ 0 ∧ ot = numF V ∧ nu = 0 ∧ tx = ⟨#[]⟩) ∨ (textB fd = false ∧ numF V = 0 ∧ ot = 0 ∧ tx = ⟨#[]⟩ ∧ I64 nu ∧ numS nu = V)
theorem unq_textF {V : ByteArray} (h : unqE V = 0) : quoteS (unqS V) = V := by
  cases hu : unqO V.data.toList with
  | none => unfold unqE at h; rw [hu] at h; cases h
  | some t =>
    obtain ⟨h1, h2⟩ := of_unqO hu
    rw [unqS_some hu]
    have hz : (⟨t.toArray⟩ : ByteArray).size ≤ 640 := by show t.toArray.size ≤ 640; simpa using h2
    refine bytes_ext ?_
    rw [quoteS_list _ hz]
    simpa using h1
theorem ReadV.val {fd : Int} {V : ByteArray} {nu : Int} {tx : ByteArray} {ot : Int} (h : ReadV fd V nu tx ot) : valS fd nu tx ot = V := by
  unfold valS
  rcases h with ⟨h1, h2, rfl, rfl, rfl⟩ | ⟨h1, h2, rfl, rfl, rfl⟩ | ⟨h1, h2, rfl, rfl, h5, h6⟩
  · rw [if_neg (by simp), if_pos h1]; exact unq_textF h2
  · rw [if_pos h2]; exact (numF_spec h2).2
  · rw [if_neg (by simp), if_neg (by rw [h1]; decide)]; exact h6
theorem ReadV.unique {fd : Int} {V : ByteArray} {nu nu' : Int} {tx tx' : ByteArray} {ot ot' : Int} (h : ReadV fd V nu tx ot) (k : ReadV fd V nu' tx' ot') : nu = nu' ∧ tx = tx' ∧ ot = ot' := by
  rcases h with ⟨h1, h2, rfl, rfl, rfl⟩ | ⟨h1, h2, rfl, rfl, rfl⟩ | ⟨h1, h2, rfl, rfl, h5, h6⟩ <;>
  rcases k with ⟨k1, k2, rfl, rfl, rfl⟩ | ⟨k1, k2, rfl, rfl, rfl⟩ | ⟨k1, k2, rfl, rfl, k5, k6⟩
  · exact ⟨rfl, rfl, rfl⟩
  · rw [h1] at k1; cases k1
  · rw [h1] at k1; cases k1
  · rw [h1] at k1; cases k1
  · exact ⟨rfl, rfl, rfl⟩
  · exact absurd k2 h2
  · rw [h1] at k1; cases k1
  · exact absurd h2 k2
  · exact ⟨numS_injF (h6.trans k6.symm), rfl, rfl⟩
theorem unq_quoteF {t : ByteArray} (h : t.size ≤ 640) : unqS (quoteS t) = t ∧ unqE (quoteS t) = 0 := by
  have := unq_yes (s := quoteS t) (t := t) ⟨by unfold quoteE; rw [if_neg (by omega)], rfl⟩
  exact ⟨unqS_some this, unqE_some this⟩
theorem ReadV.complete {fd op nu : Int} {tx : ByteArray} {ot l : Int} (h : checkF fd op nu tx ot l = 0) (hi : I64 nu) : ReadV fd (valS fd nu tx ot) nu tx ot := by
  obtain ⟨h1, h2, h3, h4, h5, h6, h7⟩ := checkF_zero h
  have empty : ∀ {s : ByteArray}, s.size = 0 → s = ⟨#[]⟩ := fun {s} hs => bytes_ext (by
    have : s.data.toList.length = 0 := by rw [Array.length_toList]; exact hs
    rw [List.eq_nil_of_length_eq_zero this])
  by_cases hot : ot = 0
  · cases ht : textB fd
    · have z : tx = ⟨#[]⟩ := empty (by rcases h7 with h | h; rw [ht] at h; cases h; exact h)
      have e : valS fd nu tx ot = numS nu := by unfold valS; rw [if_neg (by simpa using hot), if_neg (by rw [ht]; decide)]
      rw [e]
      obtain ⟨c, r, e3, d1⟩ := itoa_head nu
      have e4 : (numS nu).data.toList = c :: r := by unfold numS; simpa using e3
      exact .inr (.inr ⟨ht, numF_other e4 (by omega), hot, z, hi, rfl⟩)
    · have s1 : nu = 0 ∧ tx.size ≠ 0 ∧ tx.size ≤ 640 := by rcases h6 with h | h; rw [ht] at h; cases h; exact h
      have e : valS fd nu tx ot = quoteS tx := by unfold valS; rw [if_neg (by simpa using hot), if_pos ht]
      rw [e]
      obtain ⟨u1, u2⟩ := unq_quoteF s1.2.2
      exact .inl ⟨ht, u2, u1.symm, s1.1, hot⟩
  · have hx := h2.resolve_left hot
    have ht := owner_text hx.2.1
    have e : valS fd nu tx ot = fieldN ot.toNat := by unfold valS; rw [if_pos hot]
    have hn := numF_field (allow_range hx.1)
    have hy := h5.resolve_left hot
    rw [e]
    exact .inr (.inl ⟨ht, by rw [hn]; exact hot, hn.symm, hy.1, empty hy.2⟩)
/-- The pieces of a text: what stands ahead of the first byte of an operator, and the rest. -/
structure Pieces (s N V : ByteArray) (o : Nat) : Prop where
  eq : ∃ rest : List UInt8, s.data.toList = N.data.toList ++ rest ∧ (∃ c r, rest = c :: r ∧ opc c = true) ∧ o = opAt rest 8 ∧ rest = (opN o).data.toList ++ V.data.toList
  no : N.data.toList.all (fun c => !opc c) = true
theorem span_unique {p : UInt8 → Bool} : ∀ {A A' B B' : List UInt8}, A.all (fun c => !p c) = true → A'.all (fun c => !p c) = true → (∃ c r, B = c :: r ∧ p c = true) → (∃ c r, B' = c :: r ∧ p c = true) → A ++ B = A' ++ B' → A = A' ∧ B = B'
  | [], [], _, _, _, _, _, _, e => by simpa using e
  | [], a :: A', _, _, _, hA', ⟨c, r, hB, hc⟩, _, e => by
    subst hB
    simp at e hA'
    rw [e.1] at hc; rw [hc] at hA'; simp at hA'
  | a :: A, [], _, _, hA, _, _, ⟨c, r, hB, hc⟩, e => by
    subst hB
    simp at e hA
    rw [← e.1] at hc; rw [hc] at hA; simp at hA
  | a :: A, b :: A', B, B', hA, hA', hB, hB', e => by
    simp only [List.cons_append, List.cons.injEq] at e
    simp only [List.all_cons, Bool.and_eq_true] at hA hA'
    obtain ⟨h1, h2⟩ := span_unique hA.2 hA'.2 hB hB' e.2
    exact ⟨by rw [e.1, h1], h2⟩
/-- A test's text in its pieces. -/
theorem Pieces.of_test {s N V : ByteArray} {o : Nat} (h : Pieces s N V o) {fd op nu : Int} {tx : ByteArray} {ot : Int} (h0 : anyE fd op nu tx ot = 0) (e : testS fd op nu tx ot = s) : N = fieldN fd.toNat ∧ (o : Int) = op ∧ V = valS fd nu tx ot := by
  obtain ⟨l, hl⟩ := anyE_zero h0
  obtain ⟨h1, h2, h3, h4, h5, h6, h7⟩ := checkF_zero hl
  have r1 := allow_range h1
  obtain ⟨c, r, ev, hc⟩ := valS_head hl
  obtain ⟨rest, e1, e2, e3, e4⟩ := h.eq
  unfold testS at e
  rw [if_pos h0] at e
  have e5 := congrArg (fun s : ByteArray => s.data.toList) e
  simp only [ByteArray.data_append, Array.toList_append, List.append_assoc] at e5
  rw [e1] at e5
  have hop : ∃ c r, (opN op.toNat).data.toList ++ (valS fd nu tx ot).data.toList = c :: r ∧ opc c = true := by
    have hne := op_ne ⟨op.toNat - 1, by omega⟩
    have hall := op_all ⟨op.toNat, by omega⟩
    have e : op.toNat - 1 + 1 = op.toNat := by omega
    simp only [e] at hne
    simp only at hall
    cases hl : (opN op.toNat).data.toList with
    | nil => exact absurd hl hne
    | cons c r =>
      rw [hl] at hall
      simp at hall
      exact ⟨c, _, rfl, hall.1⟩
  obtain ⟨a1, a2⟩ := span_unique (p := opc) (field_noop ⟨fd.toNat, by omega⟩) h.no hop e2 e5
  have ho : o = op.toNat := by
    rw [e3, ← a2, ev]
    have H := opAt_find (r := r) hc ⟨op.toNat - 1, by omega⟩
    have e : op.toNat - 1 + 1 = op.toNat := by omega
    simpa only [e] using H
  refine ⟨bytes_ext a1.symm, by omega, ?_⟩
  rw [e4, ho] at a2
  exact (bytes_ext (List.append_cancel_left a2)).symm
/-- What is read and permitted has the text s. -/
theorem Pieces.sound {s N V : ByteArray} {o : Nat} (h : Pieces s N V o) {nu : Int} {tx : ByteArray} {ot : Int} (hv : ReadV (numF N) V nu tx ot) (h0 : anyE (numF N) (o : Int) nu tx ot = 0) : testS (numF N) o nu tx ot = s := by
  obtain ⟨l, hl⟩ := anyE_zero h0
  obtain ⟨h1, _⟩ := checkF_zero hl
  have r1 := allow_range h1
  obtain ⟨rest, e1, e2, e3, e4⟩ := h.eq
  unfold testS
  rw [if_pos h0, hv.val, (numF_spec (by omega)).2]
  refine bytes_ext ?_
  simp only [ByteArray.data_append, Array.toList_append, List.append_assoc, Int.toNat_natCast]
  rw [e1, e4]
theorem Pieces.bad {s N V : ByteArray} {o : Nat} (h : Pieces s N V o) (hb : ∀ nu tx ot, ReadV (numF N) V nu tx ot → anyE (numF N) (o : Int) nu tx ot ≠ 0) : NoTest s := by
  intro fd op nu tx ot hi h0 e
  obtain ⟨rfl, rfl, rfl⟩ := h.of_test h0 e
  obtain ⟨l, hl⟩ := anyE_zero h0
  obtain ⟨h1, _⟩ := checkF_zero hl
  have hn := numF_field (allow_range h1)
  rw [hn] at hb
  exact hb nu tx ot (ReadV.complete hl hi) h0
theorem no_pieces {s : ByteArray} (h : s.data.toList.all (fun c => !opc c) = true) : NoTest s := by
  intro fd op nu tx ot _ h0 e
  obtain ⟨l, hl⟩ := anyE_zero h0
  obtain ⟨h1, h2, h3, _⟩ := checkF_zero hl
  unfold testS at e
  rw [if_pos h0] at e
  have hne := op_ne ⟨op.toNat - 1, by omega⟩
  have hall := op_all ⟨op.toNat, by omega⟩
  have e' : op.toNat - 1 + 1 = op.toNat := by omega
  simp only [e'] at hne
  simp only at hall
  cases hl : (opN op.toNat).data.toList with
  | nil => exact absurd hl hne
  | cons c r =>
    rw [hl] at hall
    simp only [List.all_cons, Bool.and_eq_true] at hall
    have hm : c ∈ s.data.toList := by
      rw [← e]
      simp only [ByteArray.data_append, Array.toList_append, hl]
      simp
    have := List.all_eq_true.1 h c hm
    rw [hall.1] at this
    cases this
end Go.Proofs.YtnpaoepkpdileaaDoor

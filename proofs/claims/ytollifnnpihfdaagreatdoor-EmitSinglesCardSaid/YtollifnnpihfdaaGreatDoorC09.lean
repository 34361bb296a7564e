/- Texts of one proof, laid together. -/
import Derived.Test.YtollifnnpihfdaaGreatDoorC08
import Derived.Lib.SplitLaws
import Derived.Lib.Join
import Derived.WalkKit
import Derived.ProofKit
import Derived.OpenShut
import Derived.Carry
import Derived.LaidSub
import Derived.Lib.LaidTab
import Derived.MakeChecks
import Derived.Stop.Joined
import Derived.Test.YtollifnnpihfdaaGreatDoorC01
import Derived.Test.YtollifnnpihfdaaGreatDoorProg
import Derived.Lib.Hide
import Derived.WalkSpells
import Derived.LoopTactic
import Derived.Outline
import Derived.IntWalk
import Derived.Laws.BitsAllLaws
/- Reading a test: plain facts. -/
namespace Go.Proofs.YtollifnnpihfdaaGreatDoor
/-- No test has the text s. -/
def NoTest (s : ByteArray) : Prop := ∀ fd op nu tx ot, I64 nu → anyE fd op nu tx ot = 0 → testS fd op nu tx ot ≠ s
/-- The test that Format writes as s, with 0; or the zero test with 123. -/
def TIs (s : ByteArray) (fd op nu : Int) (tx : ByteArray) (ot er : Int) : Prop :=
  (er = 0 ∧ anyE fd op nu tx ot = 0 ∧ testS fd op nu tx ot = s ∧ I64 nu) ∨ (er = 123 ∧ fd = 0 ∧ op = 0 ∧ nu = 0 ∧ tx = ⟨#[]⟩ ∧ ot = 0 ∧ NoTest s)
theorem TIs.unique {s : ByteArray} {fd op nu fd' op' nu' : Int} {tx tx' : ByteArray} {ot ot' er er' : Int} (h : TIs s fd op nu tx ot er) (k : TIs s fd' op' nu' tx' ot' er') : er = er' ∧ fd = fd' ∧ op = op' ∧ nu = nu' ∧ tx = tx' ∧ ot = ot' := by
  rcases h with ⟨rfl, h1, h2, h3⟩ | ⟨rfl, rfl, rfl, rfl, rfl, rfl, h4⟩
  · rcases k with ⟨rfl, k1, k2, k3⟩ | ⟨rfl, rfl, rfl, rfl, rfl, rfl, k4⟩
    · exact ⟨rfl, test_inj h1 k1 (h2.trans k2.symm)⟩
    · exact absurd h2 (k4 _ _ _ _ _ h3 h1)
  · rcases k with ⟨rfl, k1, k2, k3⟩ | ⟨rfl, rfl, rfl, rfl, rfl, rfl, k4⟩
    · exact absurd k2 (h4 _ _ _ _ _ k3 k1)
    · exact ⟨rfl, rfl, rfl, rfl, rfl, rfl⟩
/-- The operator that the loop over the operators has found so far. -/
def opAt (rest : List UInt8) : Nat → Nat
  | 0 => 0
  | k + 1 => if (opN (k + 1)).data.toList <+: rest ∧ (opN (opAt rest k)).size < (opN (k + 1)).size then k + 1 else opAt rest k
theorem opAt_le (rest : List UInt8) : ∀ k, opAt rest k ≤ k
  | 0 => Nat.le_refl _
  | k + 1 => by
    unfold opAt
    split
    · exact Nat.le_refl _
    · have := opAt_le rest k; omega
theorem opAt_prefix (rest : List UInt8) : ∀ k, (opN (opAt rest k)).data.toList <+: rest
  | 0 => by unfold opAt; exact List.nil_prefix
  | k + 1 => by
    unfold opAt
    split
    · rename_i h; exact h.1
    · exact opAt_prefix rest k
theorem opc_61 {c : UInt8} (h : opc c = false) : c ≠ 61 := by
  intro e; subst e; revert h; decide
theorem opAt_find {c : UInt8} {r : List UInt8} (hc : opc c = false) : ∀ o : Fin 8, opAt ((opN (o.val + 1)).data.toList ++ c :: r) 8 = o.val + 1 := by
  have h := opc_61 hc
  have h' : (61 : UInt8) ≠ c := fun e => h e.symm
  have l1 : opN 1 = ⟨#[61]⟩ := rfl
  have l2 : opN 2 = ⟨#[33, 61]⟩ := rfl
  have l3 : opN 3 = ⟨#[60]⟩ := rfl
  have l4 : opN 4 = ⟨#[60, 61]⟩ := rfl
  have l5 : opN 5 = ⟨#[62]⟩ := rfl
  have l6 : opN 6 = ⟨#[62, 61]⟩ := rfl
  have l7 : opN 7 = ⟨#[38]⟩ := rfl
  have l8 : opN 8 = ⟨#[38, 61]⟩ := rfl
  have l0 : opN 0 = ⟨#[]⟩ := rfl
  have z0 : (⟨#[]⟩ : ByteArray).size = 0 := rfl
  have z1 : ∀ a : UInt8, (⟨#[a]⟩ : ByteArray).size = 1 := fun _ => rfl
  have z2 : ∀ a b : UInt8, (⟨#[a, b]⟩ : ByteArray).size = 2 := fun _ _ => rfl
  intro o
  match o with
  | ⟨0, _⟩ => simp [opAt, l0, l1, l2, l3, l4, l5, l6, l7, l8, z0, z1, z2, h, h', List.cons_prefix_cons]
  | ⟨1, _⟩ => simp [opAt, l0, l1, l2, l3, l4, l5, l6, l7, l8, z0, z1, z2, h, h', List.cons_prefix_cons]
  | ⟨2, _⟩ => simp [opAt, l0, l1, l2, l3, l4, l5, l6, l7, l8, z0, z1, z2, h, h', List.cons_prefix_cons]
  | ⟨3, _⟩ => simp [opAt, l0, l1, l2, l3, l4, l5, l6, l7, l8, z0, z1, z2, h, h', List.cons_prefix_cons]
  | ⟨4, _⟩ => simp [opAt, l0, l1, l2, l3, l4, l5, l6, l7, l8, z0, z1, z2, h, h', List.cons_prefix_cons]
  | ⟨5, _⟩ => simp [opAt, l0, l1, l2, l3, l4, l5, l6, l7, l8, z0, z1, z2, h, h', List.cons_prefix_cons]
  | ⟨6, _⟩ => simp [opAt, l0, l1, l2, l3, l4, l5, l6, l7, l8, z0, z1, z2, h, h', List.cons_prefix_cons]
  | ⟨7, _⟩ => simp [opAt, l0, l1, l2, l3, l4, l5, l6, l7, l8, z0, z1, z2, h, h', List.cons_prefix_cons]
theorem numF_spec {s : ByteArray} (h : numF s ≠ 0) : (1 ≤ numF s ∧ numF s ≤ 22) ∧ fieldN (numF s).toNat = s := by
  by_cases hx : ∃ k, k < 22 ∧ fieldN (k + 1) = s
  · obtain ⟨k, hk, rfl⟩ := hx
    have H : ∀ k : Fin 22, numF (fieldN (k.val + 1)) = (k.val : Int) + 1 := by decide +kernel
    have e := H ⟨k, hk⟩
    simp only at e
    rw [e]
    refine ⟨by omega, ?_⟩
    have : ((k : Int) + 1).toNat = k + 1 := by omega
    rw [this]
  · exact absurd (numF_none fun j hj e => hx ⟨j, hj, e⟩) h
theorem numF_field {f : Int} (h : 1 ≤ f ∧ f ≤ 22) : numF (fieldN f.toNat) = f := by
  have H : ∀ k : Fin 22, numF (fieldN (k.val + 1)) = (k.val : Int) + 1 := by decide +kernel
  have := H ⟨f.toNat - 1, by omega⟩
  have e : f.toNat - 1 + 1 = f.toNat := by omega
  simp only [e] at this
  rw [this]; omega
theorem field_notx : ∀ k : Fin 22, (fieldN (k.val + 1)).data.toList.head?.map (fun c => decide (c.toNat ≠ 120)) = some true := by decide +kernel
theorem numF_other {s : ByteArray} {c : UInt8} {r : List UInt8} (e : s.data.toList = c :: r) (h : c.toNat < 97 ∨ c.toNat = 120) : numF s = 0 := by
  refine numF_none fun j hj he => ?_
  have h1 := field_head ⟨j, hj⟩
  have h2 := field_notx ⟨j, hj⟩
  simp only [he, e] at h1 h2
  simp at h1 h2
  omega
/-- The value of a test as it is read of the text V. -/
def ReadV (fd : Int) (V : ByteArray) (nu : Int) (tx : ByteArray) (ot : Int) : Prop :=
  (textB fd = true ∧ unqE V = 0 ∧ tx = unqS V ∧ nu = 0 ∧ ot = 0) ∨ (textB fd = false ∧ numF V ≠ 0 ∧ ot = numF V ∧ nu = 0 ∧ tx = ⟨#[]⟩) ∨ (textB fd = false ∧ numF V = 0 ∧ ot = 0 ∧ tx = ⟨#[]⟩ ∧ I64 nu ∧ numS nu = V)
theorem unq_textF {V : ByteArray} (h : unqE V = 0) : quoteS (unqS V) = V := by
  cases hu : unqO V.data.toList with
  | none => unfold unqE at h; rw [hu] at h; cases h
  | some t =>
    obtain ⟨h1, h2⟩ := of_unqO hu
    rw [unqS_some hu]
    have hz : (⟨t.toArray⟩ : ByteArray).size ≤ 640 := by show t.toArray.size ≤ 640; simpa using h2
    refine bytes_ext ?_
    rw [quoteS_list _ hz]
    simpa using h1
theorem ReadV.val {fd : Int} {V : ByteArray} {nu : Int} {tx : ByteArray} {ot : Int} (h : ReadV fd V nu tx ot) : valS fd nu tx ot = V := by
  unfold valS
  rcases h with ⟨h1, h2, rfl, rfl, rfl⟩ | ⟨h1, h2, rfl, rfl, rfl⟩ | ⟨h1, h2, rfl, rfl, h5, h6⟩
  · rw [if_neg (by simp), if_pos h1]; exact unq_textF h2
  · rw [if_pos h2]; exact (numF_spec h2).2
  · rw [if_neg (by simp), if_neg (by rw [h1]; decide)]; exact h6
theorem ReadV.unique {fd : Int} {V : ByteArray} {nu nu' : Int} {tx tx' : ByteArray} {ot ot' : Int} (h : ReadV fd V nu tx ot) (k : ReadV fd V nu' tx' ot') : nu = nu' ∧ tx = tx' ∧ ot = ot' := by
  rcases h with ⟨h1, h2, rfl, rfl, rfl⟩ | ⟨h1, h2, rfl, rfl, rfl⟩ | ⟨h1, h2, rfl, rfl, h5, h6⟩ <;>
  rcases k with ⟨k1, k2, rfl, rfl, rfl⟩ | ⟨k1, k2, rfl, rfl, rfl⟩ | ⟨k1, k2, rfl, rfl, k5, k6⟩
  · exact ⟨rfl, rfl, rfl⟩
  · rw [h1] at k1; cases k1
  · rw [h1] at k1; cases k1
  · rw [h1] at k1; cases k1
  · exact ⟨rfl, rfl, rfl⟩
  · exact absurd k2 h2
  · rw [h1] at k1; cases k1
  · exact absurd h2 k2
  · exact ⟨numS_injF (h6.trans k6.symm), rfl, rfl⟩
theorem unq_quoteF {t : ByteArray} (h : t.size ≤ 640) : unqS (quoteS t) = t ∧ unqE (quoteS t) = 0 := by
  have := unq_yes (s := quoteS t) (t := t) ⟨by unfold quoteE; rw [if_neg (by omega)], rfl⟩
  exact ⟨unqS_some this, unqE_some this⟩
theorem ReadV.complete {fd op nu : Int} {tx : ByteArray} {ot l : Int} (h : checkF fd op nu tx ot l = 0) (hi : I64 nu) : ReadV fd (valS fd nu tx ot) nu tx ot := by
  obtain ⟨h1, h2, h3, h4, h5, h6, h7⟩ := checkF_zero h
  have empty : ∀ {s : ByteArray}, s.size = 0 → s = ⟨#[]⟩ := fun {s} hs => bytes_ext (by
    have : s.data.toList.length = 0 := by rw [Array.length_toList]; exact hs
    rw [List.eq_nil_of_length_eq_zero this])
  by_cases hot : ot = 0
  · cases ht : textB fd
    · have z : tx = ⟨#[]⟩ := empty (by rcases h7 with h | h; rw [ht] at h; cases h; exact h)
      have e : valS fd nu tx ot = numS nu := by unfold valS; rw [if_neg (by simpa using hot), if_neg (by rw [ht]; decide)]
      rw [e]
      obtain ⟨c, r, e3, d1⟩ := itoa_head nu
      have e4 : (numS nu).data.toList = c :: r := by unfold numS; simpa using e3
      exact .inr (.inr ⟨ht, numF_other e4 (by omega), hot, z, hi, rfl⟩)
    · have s1 : nu = 0 ∧ tx.size ≠ 0 ∧ tx.size ≤ 640 := by rcases h6 with h | h; rw [ht] at h; cases h; exact h
      have e : valS fd nu tx ot = quoteS tx := by unfold valS; rw [if_neg (by simpa using hot), if_pos ht]
      rw [e]
      obtain ⟨u1, u2⟩ := unq_quoteF s1.2.2
      exact .inl ⟨ht, u2, u1.symm, s1.1, hot⟩
  · have hx := h2.resolve_left hot
    have ht := owner_text hx.2.1
    have e : valS fd nu tx ot = fieldN ot.toNat := by unfold valS; rw [if_pos hot]
    have hn := numF_field (allow_range hx.1)
    have hy := h5.resolve_left hot
    rw [e]
    exact .inr (.inl ⟨ht, by rw [hn]; exact hot, hn.symm, hy.1, empty hy.2⟩)
/-- The pieces of a text: what stands ahead of the first byte of an operator, and the rest. -/
structure Pieces (s N V : ByteArray) (o : Nat) : Prop where
  eq : ∃ rest : List UInt8, s.data.toList = N.data.toList ++ rest ∧ (∃ c r, rest = c :: r ∧ opc c = true) ∧ o = opAt rest 8 ∧ rest = (opN o).data.toList ++ V.data.toList
  no : N.data.toList.all (fun c => !opc c) = true
theorem span_unique {p : UInt8 → Bool} : ∀ {A A' B B' : List UInt8}, A.all (fun c => !p c) = true → A'.all (fun c => !p c) = true → (∃ c r, B = c :: r ∧ p c = true) → (∃ c r, B' = c :: r ∧ p c = true) → A ++ B = A' ++ B' → A = A' ∧ B = B'
  | [], [], _, _, _, _, _, _, e => by simpa using e
  | [], a :: A', _, _, _, hA', ⟨c, r, hB, hc⟩, _, e => by
    subst hB
    simp at e hA'
    rw [e.1] at hc; rw [hc] at hA'; simp at hA'
  | a :: A, [], _, _, hA, _, _, ⟨c, r, hB, hc⟩, e => by
    subst hB
    simp at e hA
    rw [← e.1] at hc; rw [hc] at hA; simp at hA
  | a :: A, b :: A', B, B', hA, hA', hB, hB', e => by
    simp only [List.cons_append, List.cons.injEq] at e
    simp only [List.all_cons, Bool.and_eq_true] at hA hA'
    obtain ⟨h1, h2⟩ := span_unique hA.2 hA'.2 hB hB' e.2
    exact ⟨by rw [e.1, h1], h2⟩
/-- A test's text in its pieces. -/
theorem Pieces.of_test {s N V : ByteArray} {o : Nat} (h : Pieces s N V o) {fd op nu : Int} {tx : ByteArray} {ot : Int} (h0 : anyE fd op nu tx ot = 0) (e : testS fd op nu tx ot = s) : N = fieldN fd.toNat ∧ (o : Int) = op ∧ V = valS fd nu tx ot := by
  obtain ⟨l, hl⟩ := anyE_zero h0
  obtain ⟨h1, h2, h3, h4, h5, h6, h7⟩ := checkF_zero hl
  have r1 := allow_range h1
  obtain ⟨c, r, ev, hc⟩ := valS_head hl
  obtain ⟨rest, e1, e2, e3, e4⟩ := h.eq
  unfold testS at e
  rw [if_pos h0] at e
  have e5 := congrArg (fun s : ByteArray => s.data.toList) e
  simp only [ByteArray.data_append, Array.toList_append, List.append_assoc] at e5
  rw [e1] at e5
  have hop : ∃ c r, (opN op.toNat).data.toList ++ (valS fd nu tx ot).data.toList = c :: r ∧ opc c = true := by
    have hne := op_ne ⟨op.toNat - 1, by omega⟩
    have hall := op_all ⟨op.toNat, by omega⟩
    have e : op.toNat - 1 + 1 = op.toNat := by omega
    simp only [e] at hne
    simp only at hall
    cases hl : (opN op.toNat).data.toList with
    | nil => exact absurd hl hne
    | cons c r =>
      rw [hl] at hall
      simp at hall
      exact ⟨c, _, rfl, hall.1⟩
  obtain ⟨a1, a2⟩ := span_unique (p := opc) (field_noop ⟨fd.toNat, by omega⟩) h.no hop e2 e5
  have ho : o = op.toNat := by
    rw [e3, ← a2, ev]
    have H := opAt_find (r := r) hc ⟨op.toNat - 1, by omega⟩
    have e : op.toNat - 1 + 1 = op.toNat := by omega
    simpa only [e] using H
  refine ⟨bytes_ext a1.symm, by omega, ?_⟩
  rw [e4, ho] at a2
  exact (bytes_ext (List.append_cancel_left a2)).symm
/-- What is read and permitted has the text s. -/
theorem Pieces.sound {s N V : ByteArray} {o : Nat} (h : Pieces s N V o) {nu : Int} {tx : ByteArray} {ot : Int} (hv : ReadV (numF N) V nu tx ot) (h0 : anyE (numF N) (o : Int) nu tx ot = 0) : testS (numF N) o nu tx ot = s := by
  obtain ⟨l, hl⟩ := anyE_zero h0
  obtain ⟨h1, _⟩ := checkF_zero hl
  have r1 := allow_range h1
  obtain ⟨rest, e1, e2, e3, e4⟩ := h.eq
  unfold testS
  rw [if_pos h0, hv.val, (numF_spec (by omega)).2]
  refine bytes_ext ?_
  simp only [ByteArray.data_append, Array.toList_append, List.append_assoc, Int.toNat_natCast]
  rw [e1, e4]
theorem Pieces.bad {s N V : ByteArray} {o : Nat} (h : Pieces s N V o) (hb : ∀ nu tx ot, ReadV (numF N) V nu tx ot → anyE (numF N) (o : Int) nu tx ot ≠ 0) : NoTest s := by
  intro fd op nu tx ot hi h0 e
  obtain ⟨rfl, rfl, rfl⟩ := h.of_test h0 e
  obtain ⟨l, hl⟩ := anyE_zero h0
  obtain ⟨h1, _⟩ := checkF_zero hl
  have hn := numF_field (allow_range h1)
  rw [hn] at hb
  exact hb nu tx ot (ReadV.complete hl hi) h0
theorem no_pieces {s : ByteArray} (h : s.data.toList.all (fun c => !opc c) = true) : NoTest s := by
  intro fd op nu tx ot _ h0 e
  obtain ⟨l, hl⟩ := anyE_zero h0
  obtain ⟨h1, h2, h3, _⟩ := checkF_zero hl
  unfold testS at e
  rw [if_pos h0] at e
  have hne := op_ne ⟨op.toNat - 1, by omega⟩
  have hall := op_all ⟨op.toNat, by omega⟩
  have e' : op.toNat - 1 + 1 = op.toNat := by omega
  simp only [e'] at hne
  simp only at hall
  cases hl : (opN op.toNat).data.toList with
  | nil => exact absurd hl hne
  | cons c r =>
    rw [hl] at hall
    simp only [List.all_cons, Bool.and_eq_true] at hall
    have hm : c ∈ s.data.toList := by
      rw [← e]
      simp only [ByteArray.data_append, Array.toList_append, hl]
      simp
    have := List.all_eq_true.1 h c hm
    rw [hall.1] at this
    cases this
end Go.Proofs.YtollifnnpihfdaaGreatDoor
/- A text cut at each byte c: the pieces are unique; strings.Split's pieces are they, and so are those of the loop of kauditref01.Cut. -/
namespace Go.Proofs.YtollifnnpihfdaaGreatDoor
def NoC (c : UInt8) (s : ByteArray) : Prop := ∀ b ∈ s.data.toList, b ≠ c
def joinL (c : UInt8) : List ByteArray → List UInt8
  | [] => []
  | x :: L => x.data.toList ++ Lib.joinTail [c] (L.map (·.data.toList))
theorem joinL_cons (c : UInt8) (x y : ByteArray) (L : List ByteArray) : joinL c (x :: y :: L) = x.data.toList ++ c :: joinL c (y :: L) := by
  simp [joinL, Lib.joinTail]
structure IsW (c : UInt8) (s : ByteArray) (L : List ByteArray) : Prop where
  ne : L ≠ []
  no : ∀ x ∈ L, NoC c x
  eq : s.data.toList = joinL c L
theorem c_split {c : UInt8} : ∀ {a b t u : List UInt8}, (∀ x ∈ a, x ≠ c) → (∀ x ∈ b, x ≠ c) → (t = [] ∨ ∃ r, t = c :: r) → (u = [] ∨ ∃ r, u = c :: r) → a ++ t = b ++ u → a = b ∧ t = u
  | [], [], t, u, _, _, _, _, h => by simpa using h
  | [], y :: b, t, u, _, hb, ht, _, h => by
    rcases ht with rfl | ⟨r, rfl⟩
    · simp at h
    · simp at h; exact absurd h.1.symm (hb y List.mem_cons_self)
  | x :: a, [], t, u, ha, _, _, hu, h => by
    rcases hu with rfl | ⟨r, rfl⟩
    · simp at h
    · simp at h; exact absurd h.1 (ha x List.mem_cons_self)
  | x :: a, y :: b, t, u, ha, hb, ht, hu, h => by
    simp only [List.cons_append, List.cons.injEq] at h
    obtain ⟨h1, h2⟩ := c_split (fun c hc => ha c (List.mem_cons_of_mem _ hc)) (fun c hc => hb c (List.mem_cons_of_mem _ hc)) ht hu h.2
    exact ⟨by rw [h.1, h1], h2⟩
theorem bsz (s : ByteArray) : s.data.toList.length = s.size := by simp
theorem data_inj {a b : ByteArray} (h : a.data.toList = b.data.toList) : a = b := by
  cases a; cases b; simp at h; exact congrArg _ h
theorem joinL_inj {c : UInt8} : ∀ {L M : List ByteArray}, L ≠ [] → M ≠ [] → (∀ x ∈ L, NoC c x) → (∀ x ∈ M, NoC c x) → joinL c L = joinL c M → L = M
  | [], _, h, _, _, _, _ => absurd rfl h
  | _ :: _, [], _, h, _, _, _ => absurd rfl h
  | [x], [y], _, _, _, _, h => by
    have h' : x.data.toList = y.data.toList := by simpa [joinL, Lib.joinTail] using h
    rw [data_inj h']
  | [x], y :: z :: M, _, _, hx, hy, h => by
    rw [joinL_cons] at h
    have h' : x.data.toList ++ [] = y.data.toList ++ c :: joinL c (z :: M) := by rw [← h]; simp [joinL, Lib.joinTail]
    have := (c_split (hx x (by simp)) (hy y (by simp)) (.inl rfl) (.inr ⟨_, rfl⟩) h').2
    cases this
  | x :: z :: L, [y], _, _, hx, hy, h => by
    rw [joinL_cons] at h
    have h' : x.data.toList ++ c :: joinL c (z :: L) = y.data.toList ++ [] := by rw [h]; simp [joinL, Lib.joinTail]
    have := (c_split (hx x (by simp)) (hy y (by simp)) (.inr ⟨_, rfl⟩) (.inl rfl) h').2
    cases this
  | x :: x2 :: L, y :: y2 :: M, _, _, hx, hy, h => by
    rw [joinL_cons, joinL_cons] at h
    obtain ⟨h1, h2⟩ := c_split (hx x (by simp)) (hy y (by simp)) (.inr ⟨_, rfl⟩) (.inr ⟨_, rfl⟩) h
    simp only [List.cons.injEq, true_and] at h2
    rw [data_inj h1, joinL_inj (by simp) (by simp) (fun s hs => hx s (List.mem_cons_of_mem _ hs)) (fun s hs => hy s (List.mem_cons_of_mem _ hs)) h2]
theorem IsW.unique {c : UInt8} {s : ByteArray} {L M : List ByteArray} (h : IsW c s L) (k : IsW c s M) : L = M :=
  joinL_inj h.ne k.ne h.no k.no (h.eq.symm.trans k.eq)
theorem IsW.size {c : UInt8} {s : ByteArray} {L : List ByteArray} (h : IsW c s L) : L.length ≤ s.size + 1 ∧ ∀ x ∈ L, x.size ≤ s.size := by
  have key : ∀ L : List ByteArray, L.length ≤ (joinL c L).length + 1 ∧ ∀ x ∈ L, x.size ≤ (joinL c L).length := by
    intro L
    induction L with
    | nil => simp
    | cons x L ih =>
      cases L with
      | nil =>
        refine ⟨by simp, fun z hz => ?_⟩
        rw [List.mem_singleton.1 hz, ← bsz]
        simp [joinL, Lib.joinTail]
      | cons y L =>
        rw [joinL_cons]
        obtain ⟨h1, h2⟩ := ih
        refine ⟨by simp at h1 ⊢; omega, ?_⟩
        intro z hz
        rcases List.mem_cons.1 hz with rfl | hz
        · rw [← bsz]; simp
        · have := h2 z hz; simp; omega
  have := key L
  rw [← h.eq, bsz] at this
  exact this
/-- Split's pieces. -/
theorem isW_split (c : UInt8) : ∀ (k : Nat) (s : ByteArray), Lib.countB s ⟨#[c]⟩ = k → IsW c s (Lib.splitB ⟨#[c]⟩ 0 k s)
  | 0, s, h => by
    rw [Lib.splitB_zero]
    refine ⟨by simp, ?_, by simp [joinL, Lib.joinTail]⟩
    intro x hx
    rw [List.mem_singleton.1 hx]
    intro b hb e
    subst e
    have h0 : Lib.count s.data.toList [b] = 0 := h
    rw [Lib.count_one] at h0
    have := List.count_pos_iff.2 hb
    omega
  | k + 1, s, h => by
    rcases Lib.index_spec s.data.toList [c] with ⟨h1, _⟩ | ⟨i, h1, h2, h3, h4⟩
    · have := Lib.countB_miss s ⟨#[c]⟩ h1
      omega
    · have hk : Lib.countB (s.extract (i + 1) s.size) ⟨#[c]⟩ = k := by
        have := Lib.countB_hit s ⟨#[c]⟩ i (Nat.le_refl 1) h1
        have e : (⟨#[c]⟩ : ByteArray).size = 1 := rfl
        rw [e] at this
        omega
      have hc : s.data.toList[i]? = some c := Lib.occAt_head rfl h3
      rw [Lib.splitB_hit _ _ _ _ i h1]
      have e1 : (⟨#[c]⟩ : ByteArray).size = 1 := rfl
      rw [e1, Nat.add_zero]
      have ih := isW_split c k _ hk
      have hi : i < s.data.toList.length := by
        by_cases hlt : i < s.data.toList.length
        · exact hlt
        · rw [List.getElem?_eq_none (by omega)] at hc; cases hc
      have hlow : ∀ b ∈ s.data.toList.take i, b ≠ c := by
        intro b hb e
        obtain ⟨j, hj, he⟩ := List.mem_iff_getElem.1 hb
        rw [List.length_take] at hj
        rw [List.getElem_take] at he
        have hjl : j < i := Nat.lt_of_lt_of_le hj (Nat.min_le_left _ _)
        have := h4 j hjl
        have hjs : j + 1 ≤ s.data.toList.length := by omega
        rw [Lib.occAt_iff_take _ _ _ hjs] at this
        rw [List.drop_eq_getElem_cons (by omega)] at this
        simp [he, e] at this
      refine ⟨by simp, ?_, ?_⟩
      · intro x hx
        rcases List.mem_cons.1 hx with rfl | hx
        · intro b hb; rw [Lib.extract_from_zero] at hb; exact hlow b hb
        · exact ih.no x hx
      · obtain ⟨y, M, hy⟩ : ∃ y M, Lib.splitB ⟨#[c]⟩ 0 k (s.extract (i + 1) s.size) = y :: M := by
          cases hm : Lib.splitB ⟨#[c]⟩ 0 k (s.extract (i + 1) s.size) with
          | nil => exact absurd hm ih.ne
          | cons y M => exact ⟨y, M, rfl⟩
        rw [hy, joinL_cons, ← hy, ← ih.eq, Lib.extract_from_zero, Lib.extract_to_end]
        have hg : s.data.toList[i] = c := by rw [List.getElem?_eq_getElem hi] at hc; exact Option.some.inj hc
        conv => lhs; rw [← List.take_append_drop i s.data.toList, List.drop_eq_getElem_cons hi, hg]
/-- The loop of Cut: D are the pieces so far, the next begins at m, the loop is at i. -/
def flatC (c : UInt8) (D : List ByteArray) : List UInt8 := (D.map (fun d => d.data.toList ++ [c])).flatten
theorem flatC_join (c : UInt8) (x : ByteArray) : ∀ D : List ByteArray, flatC c D ++ x.data.toList = joinL c (D ++ [x])
  | [] => by simp [flatC, joinL, Lib.joinTail]
  | [d] => by simp [flatC, joinL, Lib.joinTail]
  | d :: e :: D => by
    have ih := flatC_join c x (e :: D)
    have h1 : flatC c (d :: e :: D) = d.data.toList ++ c :: flatC c (e :: D) := by simp [flatC]
    have h2 : d :: e :: D ++ [x] = d :: e :: (D ++ [x]) := rfl
    have h3 : e :: D ++ [x] = e :: (D ++ [x]) := rfl
    rw [h1, h2, joinL_cons, ← h3, ← ih]
    simp
structure CutSt (c : UInt8) (s : ByteArray) (D : List ByteArray) (m i : Nat) : Prop where
  le : m ≤ i
  top : i ≤ s.size
  eq : s.data.toList.take m = flatC c D
  no : ∀ d ∈ D, NoC c d
  rest : ∀ j, m ≤ j → j < i → s.data.toList[j]? ≠ some c
theorem CutSt.start (c : UInt8) (s : ByteArray) : CutSt c s [] 0 0 := ⟨Nat.le_refl _, Nat.zero_le _, rfl, by simp, fun _ _ h => absurd h (Nat.not_lt_zero _)⟩
theorem CutSt.next {c : UInt8} {s : ByteArray} {D : List ByteArray} {m i : Nat} (h : CutSt c s D m i) (hi : i < s.size) (hc : s[i] ≠ c) : CutSt c s D m (i + 1) :=
  ⟨by have := h.le; omega, hi, h.eq, h.no, fun j h1 h2 => by
    by_cases e : j = i
    · subst e
      rw [List.getElem?_eq_getElem (by rw [bsz]; exact hi)]
      intro e; exact hc (Option.some.inj e)
    · exact h.rest j h1 (by omega)⟩
theorem extract_list (s : ByteArray) (a b : Nat) : (s.extract a b).data.toList = (s.data.toList.take b).drop a := by
  rw [Lib.extract_data]; simp [List.drop_take]
theorem CutSt.piece {c : UInt8} {s : ByteArray} {D : List ByteArray} {m i : Nat} (h : CutSt c s D m i) : NoC c (s.extract m i) := by
  intro b hb e
  rw [extract_list] at hb
  obtain ⟨j, hj, he⟩ := List.mem_iff_getElem.1 hb
  rw [List.getElem_drop, List.getElem_take] at he
  rw [List.length_drop, List.length_take] at hj
  refine h.rest (m + j) (by omega) (by omega) ?_
  rw [List.getElem?_eq_getElem (by omega), he, e]
theorem CutSt.cut {c : UInt8} {s : ByteArray} {D : List ByteArray} {m i : Nat} (h : CutSt c s D m i) (hi : i < s.size) (hc : s[i] = c) : CutSt c s (D ++ [s.extract m i]) (i + 1) (i + 1) := by
  have hi' : i < s.data.toList.length := by rw [bsz]; exact hi
  refine ⟨Nat.le_refl _, hi, ?_, ?_, fun j h1 h2 => absurd h2 (by omega)⟩
  · have hg : s.data.toList[i] = c := hc
    have e1 : s.data.toList.take (i + 1) = s.data.toList.take i ++ [c] := by rw [List.take_succ_eq_append_getElem hi', hg]
    have e2 : s.data.toList.take i = s.data.toList.take m ++ (s.extract m i).data.toList := by
      rw [extract_list]
      conv => lhs; rw [← List.take_append_drop m (s.data.toList.take i), List.take_take, Nat.min_eq_left h.le]
    rw [e1, e2, h.eq]
    simp [flatC]
  · intro d hd
    rcases List.mem_append.1 hd with h1 | h1
    · exact h.no d h1
    · rw [List.mem_singleton.1 h1]; exact h.piece
theorem CutSt.done {c : UInt8} {s : ByteArray} {D : List ByteArray} {m : Nat} (h : CutSt c s D m s.size) : IsW c s (D ++ [s.extract m s.size]) := by
  refine ⟨by simp, ?_, ?_⟩
  · intro d hd
    rcases List.mem_append.1 hd with h1 | h1
    · exact h.no d h1
    · rw [List.mem_singleton.1 h1]; exact h.piece
  · rw [← flatC_join, ← h.eq, extract_list]
    have : s.data.toList.take s.size = s.data.toList := List.take_of_length_le (by rw [bsz]; exact Nat.le_refl _)
    rw [this, List.take_append_drop]
theorem CutSt.count {c : UInt8} {s : ByteArray} {D : List ByteArray} {m i : Nat} (h : CutSt c s D m i) : D.length ≤ m := by
  have : ∀ D : List ByteArray, D.length ≤ (flatC c D).length := by
    intro D
    induction D with
    | nil => simp
    | cons d D ih =>
      have : flatC c (d :: D) = d.data.toList ++ c :: flatC c D := by simp [flatC]
      rw [this]; simp; omega
  have h1 := this D
  rw [← h.eq, List.length_take] at h1
  omega
end Go.Proofs.YtollifnnpihfdaaGreatDoor
/- The last step of a law's row: the call returned true and left what was there. -/
namespace Go.Proofs.YtollifnnpihfdaaGreatDoor
open Go.ChangeShapes Go.WideShapes Go.ChangeAt Go.RowKit
theorem vars_at {P : Program} {w : World} : ∀ {l : List (String × DataW Unit)} {ps : List MemPlace}, DataW.LaidVars P w l ps → ∀ (i : Nat) (n : String) (d : DataW Unit), l[i]? = some (n, d) →
    ∃ g t cs fuel p, P.globalNamed n = some g ∧ (P.globals[g]?).map (·.type) = some t ∧ w.var? P n = some cs ∧ DataW.trod (fun _ => ()) P w 0 (fun _ => true) false fuel t cs.toList = some (d, p)
  | [], _, _, i, n, d, hm => by simp at hm
  | (n', d') :: r, ps, h, i, n, d, hm => by
    obtain ⟨g, t, cs, fuel, p, q, h1, h2, h3, h4, h5, _⟩ := h
    match i, hm with
    | 0, hm =>
      simp at hm
      obtain ⟨rfl, rfl⟩ := hm
      exact ⟨g, t, cs, fuel, p, h1, h2, h3, h4⟩
    | i + 1, hm => exact vars_at h5 i n d (by simpa using hm)
/-- A listed table of integers, out of the row's condition. -/
theorem tab_of_laid {P : Program} {W : World} {laid : List (String × DataW Unit)} {name : String} {k : IntKind} {zs : List Int} {g : Nat} {t e : TypeId} {n : Nat} (i : Nat)
    (hpl : (laid.all fun x => x.2.handleName?.isNone) = true) (h : laidMetH P laid W) (hi : laid[i]? = some (name, Lib.tabData k zs))
    (hg : P.globalNamed name = some g) (hty : (P.globals[g]?).map (·.type) = some t) (ht : P.underlying t = some (.array n e)) (he : P.underlying e = some (.int k)) (hce : P.cellsOf e = 1) (hct : P.cellsOf t = n) : Lib.TabIs P W name k zs := by
  rw [MakeChecks.laidMetH_plain _ _ _ hpl] at h
  obtain ⟨ps, hv, _⟩ := h
  obtain ⟨g', t', cs, fuel, p, hg', ht', hvar, hd⟩ := vars_at hv i name _ hi
  obtain rfl := Option.some.inj (hg.symm.trans hg')
  obtain rfl := Option.some.inj (hty.symm.trans ht')
  unfold Lib.TabIs
  rw [hvar, ← Lib.cells_of_tab ht he hce hct hd]
section
variable {H : Type} {enc : TypeId × Value → H} {P : Program}
/-- Arguments read as they did, where nothing that was there has changed. -/
theorem trodAll_stays (hl : laidOutB P = true) {W W' : World} (hb : Below W.heap.size W W') : ∀ {ts : List TypeId} {vs : List Value} {ds : List (DataW H)} {ps : List MemPlace},
    (∀ t ∈ ts, P.readableRec t = true ∧ t < P.types.size) → DataW.TrodAll enc P W 0 (fun _ => true) true ts vs ds ps → (∀ x ∈ ps, x.block < W.heap.size) →
    DataW.TrodAll enc P W' 0 (fun b => decide (b < W.heap.size)) true ts vs ds ps
  | [], vs, ds, ps, _, h, _ => by
    obtain ⟨rfl, rfl, rfl⟩ := trodAll_nil h
    exact trodAll_mk0
  | t :: ts, vs, ds, ps, ht, h, hlt => by
    obtain ⟨v, vs1, d, ds1, p, q, rfl, rfl, rfl, h1, h2⟩ := trodAll_cons h
    have hh := ht t List.mem_cons_self
    exact trodAll_cons_mk (Below.trod hl hh.1 hh.2 h1 hb fun x hx => hlt x (List.mem_append_left _ hx))
      (trodAll_stays hl hb (fun u hu => ht u (List.mem_cons_of_mem _ hu)) h2 fun x hx => hlt x (List.mem_append_right _ hx))
theorem law_mono {f : FuncId} {args : Array Value} {W : World} {Q : Ending → World → Prop} (h : Calls P f args W fun e w' => e = .returned (.bool true) ∧ Below W.heap.size W w')
    (k : ∀ W', Below W.heap.size W W' → Q (.returned (.bool true)) W') : Calls P f args W Q := h.mono fun _ w' hh => hh.1 ▸ k w' hh.2
theorem post_law {f : Func} {s : ChangeSpec} {W W' : World} {args : Array Value} {ds gs : List (DataW H)} {before : List MemPlace} {b : TypeId}
    (hl : laidOutB P = true) (hp : (f.params.toList.all fun t => P.readableRec t && decide (t < P.types.size)) = true) (hr : f.resultTypes = #[b]) (hbool : P.underlying b = some .bool)
    (hW : DataW.Whole enc P f.params.toList s.vars false W args.toList ds gs before) (hv : s.vars = []) (hfn : s.fn H (ds ++ gs) = { results := [.lit (.bool true)], args := ds }) (hb : Below W.heap.size W W') :
    s.post enc P f false true false false W args (.bool true) W' := by
  have hlt : ∀ p ∈ before, p.block < W.heap.size := fun p hp => hW.lt p hp
  obtain ⟨p, q, hA, hV, rfl, hfz, hnd⟩ := id hW
  have hV' := hV
  rw [hv] at hV'
  obtain ⟨rfl, rfl⟩ := trodVars_none hV'
  refine ⟨ds, [], _, [], p, [], hW, ?_, ?_, ?_, hb.frame _, fun h => by cases h⟩
  · rw [hfn, hr]
    exact trodAll_mk1 (shut_bool hbool _)
  · rw [hfn]
    exact trodAll_stays hl hb (fun t ht => by simpa using List.all_eq_true.1 hp t ht) hA fun x hx => hlt x (List.mem_append_left _ hx)
  · rw [hfn, hv]; rfl
/-- An argument that is a slice of numbers: what a source of numbers asks of it. -/
theorem ints_arg {W : World} {base : Nat} {t e : TypeId} {v : Value} {d : DataW H} {p : List MemPlace} (ht : P.underlying t = some (.slice e)) (he : P.underlying e = some (.int .i64)) (hc : P.cellsOf e = 1)
    (hv : Value.okWide P W .any base t v) (h : DataW.Trod enc P W 0 (fun _ => true) true t v d p) (hlt : ∀ x ∈ p, x.block < W.heap.size) :
    ∃ (A : Option Addr) (n c : Nat), v = .slice A n c ∧ (n : Int) ≤ 9223372036854775807 ∧ ∀ k, k < n → ∃ (ad : Addr) (z : Int), A = some ad ∧ ad.block < W.heap.size ∧ W.cell? (ad.add k) = some (.int .i64 z) ∧ -9223372036854775808 ≤ z ∧ z ≤ 9223372036854775807 := by
  obtain ⟨a0, len, cap, rfl⟩ := okWide_slice ht hv
  obtain ⟨fuel, hf⟩ := h
  rcases open_ints ht he hc hf with ⟨hcs, hx⟩ | ⟨a, len', cap', zs, hcs, _, hl, hm, hz, hx, hcell, hwz⟩
  · simp [Value.cells] at hcs
    obtain ⟨rfl, rfl, rfl⟩ := hcs
    exact ⟨none, 0, 0, rfl, by omega, fun k hk => by omega⟩
  · simp [Value.cells] at hcs
    obtain ⟨rfl, rfl, rfl⟩ := hcs
    simp only [if_true] at hz
    unfold maxLen at hm
    refine ⟨some a, len, cap, rfl, by omega, fun k hk => ?_⟩
    have hkz : k < zs.length := by omega
    have hw := bounds_i64 (hwz (zs.getD k 0) (by rw [List.getD_eq_getElem?_getD, List.getElem?_eq_getElem hkz]; exact List.getElem_mem hkz))
    refine ⟨a, zs.getD k 0, rfl, ?_, hcell k hkz, hw.1, hw.2⟩
    injection hx with _ hp
    have hmem : MemPlace.cell a.block (a.off + 0) ∈ p := by
      rw [hp]; unfold MemPlace.row; simp; omega
    exact hlt _ hmem
end
end Go.Proofs.YtollifnnpihfdaaGreatDoor
/- Slices of numbers that came in. -/
namespace Go.Proofs.YtollifnnpihfdaaGreatDoor
open Go.ChangeShapes Go.WideShapes Go.RowKit
/-- The slice at A reads as the numbers zs; it lies below block B. -/
def IntsAt (w : World) (B : Nat) (A : Option Addr) (zs : List Int) : Prop := ∀ k (hk : k < zs.length), ∃ ad : Addr, A = some ad ∧ ad.block < B ∧ w.cell? (ad.add k) = some (.int .i64 (zs[k]'hk))
theorem ints_block (a : Addr) (n : Nat) : (a.add n).block = a.block := by unfold Addr.add; split <;> rfl
theorem IntsAt.keep {w w' : World} {B : Nat} {A : Option Addr} {zs : List Int} (h : IntsAt w B A zs) (hb : Below B w w') : IntsAt w' B A zs := fun k hk => by
  obtain ⟨ad, e, hl, hc⟩ := h k hk
  exact ⟨ad, e, hl, (hb.cell (by rw [ints_block]; exact hl)).trans hc⟩
theorem IntsAt.more {w : World} {B B' : Nat} {A : Option Addr} {zs : List Int} (h : IntsAt w B A zs) (hB : B ≤ B') : IntsAt w B' A zs := fun k hk => by
  obtain ⟨ad, e, hl, hc⟩ := h k hk
  exact ⟨ad, e, by omega, hc⟩
theorem ints_arg2 {H : Type} {enc : TypeId × Value → H} {P : Program} {W : World} {base : Nat} {t e : TypeId} {v : Value} {d : DataW H} {p : List MemPlace} (ht : P.underlying t = some (.slice e)) (he : P.underlying e = some (.int .i64)) (hc : P.cellsOf e = 1)
    (hv : Value.okWide P W .any base t v) (h : DataW.Trod enc P W 0 (fun _ => true) true t v d p) (hlt : ∀ x ∈ p, x.block < W.heap.size) :
    ∃ (A : Option Addr) (c : Nat) (zs : List Int), v = .slice A zs.length c ∧ zs.length ≤ maxLen ∧ IntsAt W W.heap.size A zs ∧ ∀ z ∈ zs, -9223372036854775808 ≤ z ∧ z ≤ 9223372036854775807 := by
  obtain ⟨a0, len, cap, rfl⟩ := okWide_slice ht hv
  obtain ⟨fuel, hf⟩ := h
  rcases open_ints ht he hc hf with ⟨hcs, hx⟩ | ⟨a, len', cap', zs, hcs, _, hl, hm, hz, hx, hcell, hwz⟩
  · simp [Value.cells] at hcs
    obtain ⟨rfl, rfl, rfl⟩ := hcs
    exact ⟨none, 0, [], rfl, by simp, fun k hk => by simp at hk, by simp⟩
  · simp [Value.cells] at hcs
    obtain ⟨rfl, rfl, rfl⟩ := hcs
    simp only [if_true] at hz
    have hlz : (zs.take len).length = len := by rw [List.length_take]; omega
    refine ⟨some a, cap, zs.take len, by rw [hlz], by rw [hlz]; omega, fun k hk => ?_, fun z hz' => bounds_i64 (hwz z (List.mem_of_mem_take hz'))⟩
    have hkz : k < zs.length := by rw [hlz] at hk; omega
    refine ⟨a, rfl, ?_, ?_⟩
    · injection hx with _ hp
      have hmem : MemPlace.cell a.block (a.off + 0) ∈ p := by
        rw [hp]; unfold MemPlace.row; simp; omega
      exact hlt _ hmem
    · rw [hcell k hkz, List.getElem_take, List.getD_eq_getElem?_getD, List.getElem?_eq_getElem hkz]; rfl
end Go.Proofs.YtollifnnpihfdaaGreatDoor
/- Of, of the program and of the reference. -/
namespace Go.Proofs.YtollifnnpihfdaaGreatDoor
open Go.RowKit
def orN (zs : List Int) : Nat := zs.foldl (fun m z => m ||| 2 ^ z.toNat) 0
def outB (z : Int) : Bool := decide (z < 0) || decide (32 ≤ z)
def ofM (zs : List Int) : Int := if zs.any outB then 0 else (orN zs : Int)
def ofE (zs : List Int) : Int := if zs.any outB then 10 else 0
theorem orN_snoc (zs : List Int) (z : Int) : orN (zs ++ [z]) = orN zs ||| 2 ^ z.toNat := by simp [orN, List.foldl_append]
theorem or_lt {m n : Nat} (hm : m < 4294967296) (hn : n < 32) : m ||| 2 ^ n < 4294967296 := by
  have h1 : m < 2 ^ 32 := hm
  have h2 : 2 ^ n < 2 ^ 32 := Nat.pow_lt_pow_right (by omega) hn
  exact Nat.or_lt_two_pow h1 h2
theorem orN_lt : ∀ (zs : List Int) (m : Nat), m < 4294967296 → zs.any outB = false → zs.foldl (fun m z => m ||| 2 ^ z.toNat) m < 4294967296
  | [], m, hm, _ => hm
  | z :: zs, m, hm, h => by
    simp only [List.any_cons, Bool.or_eq_false_iff] at h
    have hz : z.toNat < 32 := by have := h.1; unfold outB at this; simp at this; omega
    exact orN_lt zs _ (or_lt hm hz) h.2
theorem any_at (zs : List Int) (k : Nat) (h : k < zs.length) (ho : outB zs[k] = true) : zs.any outB = true := List.any_eq_true.2 ⟨_, List.getElem_mem h, ho⟩
theorem any_next (zs : List Int) (k : Nat) (h : k < zs.length) (hn : (zs.take k).any outB = false) (ho : outB zs[k] = false) : (zs.take (k + 1)).any outB = false := by
  rw [List.take_succ_eq_append_getElem h, List.any_append, hn]; simp [ho]
theorem orN_next (zs : List Int) (k : Nat) (h : k < zs.length) : orN (zs.take (k + 1)) = orN (zs.take k) ||| 2 ^ zs[k].toNat := by
  rw [List.take_succ_eq_append_getElem h, orN_snoc]
theorem or_bits {m : Nat} {z : Int} (hm : m < 4294967296) (_h0 : 0 ≤ z) (h1 : z < 32) : bits .or .u64 (m : Int) (IntKind.u64.wrap (2 ^ z.toNat)) = ((m ||| 2 ^ z.toNat : Nat) : Int) := by
  have h3 : 2 ^ z.toNat < 2 ^ 32 := Nat.pow_lt_pow_right (by omega) (by omega)
  have h2 : 2 ^ z.toNat < 4294967296 := h3
  clear h3
  have e : ((2 : Int) ^ z.toNat) = ((2 ^ z.toNat : Nat) : Int) := by rw [Int.natCast_pow]; rfl
  rw [e]
  generalize 2 ^ z.toNat = q at *
  rw [IntKind.wrap_u64, Int.emod_eq_of_lt (by omega) (by omega), u64_or_nat m q (by omega) (by omega)]
theorem tupM {a b : Int} {m n : Int} (h : a = b) (k : m = n) : Ending.returned (.tuple #[.int .u64 a, .int .i64 m]) = .returned (.tuple #[.int .u64 b, .int .i64 n]) := by rw [h, k]
end Go.Proofs.YtollifnnpihfdaaGreatDoor

/- Texts of one proof, laid together. -/
import Derived.Test.YtbbihfafkpniiaaGreatDoorC02
import Derived.Test.YtbbihfafkpniiaaGreatDoorC03
import Derived.Maps.AppendAt
/- The text of a test: two tests that some list permits are equal exactly if their texts are: plain facts. -/
namespace Go.Proofs.YtbbihfafkpniiaaGreatDoor
theorem quoteS_injF {a b : ByteArray} (ha : a.size ≤ 640) (hb : b.size ≤ 640) (h : quoteS a = quoteS b) : a = b := by
  have ea : (quoteS a).data.toList = quoteL a.data.toList := by unfold quoteS; rw [if_neg (by omega)]
  have eb : (quoteS b).data.toList = quoteL b.data.toList := by unfold quoteS; rw [if_neg (by omega)]
  have h1 : Quotes (quoteL b.data.toList) a.data.toList := ⟨by rw [← ea, h, eb], by rw [Array.length_toList]; exact ha⟩
  have h2 : Quotes (quoteL b.data.toList) b.data.toList := ⟨rfl, by rw [Array.length_toList]; exact hb⟩
  exact bytes_ext (h1.unique h2)
theorem numS_injF {m n : Int} (h : numS m = numS n) : m = n := by
  apply itoa_inj
  have := congrArg (fun s : ByteArray => s.data.toList) h
  simpa [numS] using this
/-- The error of a test for the rules of the exit, or 0 if it is one of the exclusion. -/
def anyE (fd op nu : Int) (tx : ByteArray) (ot : Int) : Int := if checkF fd op nu tx ot 3 ≠ 0 ∧ checkF fd op nu tx ot 5 = 0 then 0 else checkF fd op nu tx ot 3
theorem anyE_zero {fd op nu : Int} {tx : ByteArray} {ot : Int} (h : anyE fd op nu tx ot = 0) : ∃ l, checkF fd op nu tx ot l = 0 := by
  unfold anyE at h
  split at h
  · rename_i h1; exact ⟨5, h1.2⟩
  · exact ⟨3, h⟩
/-- What a test compares its field with. -/
def valS (fd nu : Int) (tx : ByteArray) (ot : Int) : ByteArray := if ot ≠ 0 then fieldN ot.toNat else if textB fd = true then quoteS tx else numS nu
def testS (fd op nu : Int) (tx : ByteArray) (ot : Int) : ByteArray := if anyE fd op nu tx ot = 0 then fieldN fd.toNat ++ opN op.toNat ++ valS fd nu tx ot else ⟨#[]⟩
/-- A byte of an operator. -/
def opc (c : UInt8) : Bool := c == 61 || c == 33 || c == 60 || c == 62 || c == 38
theorem field_noop : ∀ k : Fin 23, (fieldN k).data.toList.all (fun c => !opc c) = true := by decide +kernel
theorem field_head : ∀ k : Fin 22, (fieldN (k.val + 1)).data.toList.head?.map (fun c => decide (97 ≤ c.toNat) && decide (c.toNat ≤ 122)) = some true := by decide +kernel
theorem op_all : ∀ k : Fin 9, (opN k).data.toList.all opc = true := by decide +kernel
theorem op_ne : ∀ k : Fin 8, (opN (k.val + 1)).data.toList ≠ [] := by decide +kernel
theorem field_inj : ∀ i j : Fin 22, (fieldN (i.val + 1)).data.toList = (fieldN (j.val + 1)).data.toList → i = j := by decide +kernel
theorem op_inj : ∀ i j : Fin 9, (opN i).data.toList = (opN j).data.toList → i = j := by decide +kernel
theorem quoteL_headF (l : List UInt8) : ∃ c r, quoteL l = c :: r ∧ (c.toNat = 34 ∨ c.toNat = 120) := by
  unfold quoteL; split
  · exact ⟨34, _, rfl, .inl rfl⟩
  · exact ⟨120, _, rfl, .inr rfl⟩
theorem fieldInt_head {f : Int} (h : 1 ≤ f ∧ f ≤ 22) : ∃ c r, (fieldN f.toNat).data.toList = c :: r ∧ 97 ≤ c.toNat ∧ c.toNat ≤ 122 := by
  have H := field_head ⟨f.toNat - 1, by omega⟩
  have e : f.toNat - 1 + 1 = f.toNat := by omega
  simp only [e] at H
  cases hl : (fieldN f.toNat).data.toList with
  | nil => rw [hl] at H; simp at H
  | cons c r => rw [hl] at H; simp at H; exact ⟨c, r, rfl, H.1, H.2⟩
theorem fieldInt_inj {f g : Int} (h : 1 ≤ f ∧ f ≤ 22) (k : 1 ≤ g ∧ g ≤ 22) (e : fieldN f.toNat = fieldN g.toNat) : f = g := by
  have := field_inj ⟨f.toNat - 1, by omega⟩ ⟨g.toNat - 1, by omega⟩ (by
    have e1 : f.toNat - 1 + 1 = f.toNat := by omega
    have e2 : g.toNat - 1 + 1 = g.toNat := by omega
    simp only [e1, e2, e])
  have := congrArg Fin.val this
  simp at this
  omega
theorem opInt_inj {f g : Int} (h : 1 ≤ f ∧ f ≤ 8) (k : 1 ≤ g ∧ g ≤ 8) (e : opN f.toNat = opN g.toNat) : f = g := by
  have := op_inj ⟨f.toNat, by omega⟩ ⟨g.toNat, by omega⟩ (by show (opN f.toNat).data.toList = _; rw [e])
  have := congrArg Fin.val this
  simp at this
  omega
/-- The value's first byte is none of an operator's. -/
theorem valS_head {fd op nu : Int} {tx : ByteArray} {ot l : Int} (h : checkF fd op nu tx ot l = 0) : ∃ c r, (valS fd nu tx ot).data.toList = c :: r ∧ opc c = false := by
  obtain ⟨h1, h2, h3, h4, h5, h6, h7⟩ := checkF_zero h
  have hopc : ∀ c : UInt8, (97 ≤ c.toNat ∨ c.toNat = 34 ∨ c.toNat = 45 ∨ (48 ≤ c.toNat ∧ c.toNat ≤ 57)) → opc c = false := fun c hc => by
    unfold opc
    have : ∀ n : Nat, n < 256 → c = UInt8.ofNat n → c.toNat = n := fun n hn e => by rw [e]; simp; omega
    cases h61 : c == 61 <;> cases h33 : c == 33 <;> cases h60 : c == 60 <;> cases h62 : c == 62 <;> cases h38 : c == 38 <;> first | rfl | (simp at *; subst_vars; simp at hc)
  unfold valS
  by_cases hot : ot = 0
  · rw [if_neg (by simpa using hot)]
    by_cases ht : textB fd = true
    · rw [if_pos ht]
      have hsz : tx.size ≤ 640 := by rcases h6 with h | h; rw [ht] at h; cases h; exact h.2.2
      obtain ⟨c, r, e, hc⟩ := quoteL_headF tx.data.toList
      have ea : (quoteS tx).data.toList = quoteL tx.data.toList := by unfold quoteS; rw [if_neg (by omega)]
      exact ⟨c, r, by rw [ea, e], hopc c (by omega)⟩
    · rw [if_neg ht]
      obtain ⟨c, r, e, hc⟩ := itoa_head nu
      exact ⟨c, r, by unfold numS; simpa using e, hopc c (by omega)⟩
  · rw [if_pos hot]
    have ha : allowB l ot = true := by rcases h2 with h | h; exact absurd h hot; exact h.1
    obtain ⟨c, r, e, c1, c2⟩ := fieldInt_head (allow_range ha)
    exact ⟨c, r, e, hopc c (by omega)⟩
theorem parts_unique {p q : UInt8 → Bool} {A B C A' B' C' : List UInt8} (hpq : ∀ c, p c = !q c) (hA : A.all p = true) (hA' : A'.all p = true) (hB : B.all q = true) (hB' : B'.all q = true) (nB : B ≠ []) (nB' : B' ≠ []) (hC : ∃ c r, C = c :: r ∧ q c = false) (hC' : ∃ c r, C' = c :: r ∧ q c = false) (e : A ++ B ++ C = A' ++ B' ++ C') : A = A' ∧ B = B' ∧ C = C' := by
  have tw : ∀ (A B C : List UInt8), A.all p = true → B.all q = true → B ≠ [] → (A ++ B ++ C).takeWhile p = A ∧ (A ++ B ++ C).dropWhile p = B ++ C := by
    intro A B C hA hB nB
    induction A with
    | nil =>
      cases B with
      | nil => exact absurd rfl nB
      | cons b B =>
        have hb : q b = true := by simp at hB; exact hB.1
        have : p b = false := by rw [hpq, hb]; rfl
        simp [this]
    | cons a A ih =>
      simp only [List.all_cons, Bool.and_eq_true] at hA
      obtain ⟨i1, i2⟩ := ih hA.2
      simp only [List.cons_append, List.takeWhile_cons, List.dropWhile_cons, hA.1, if_true]
      exact ⟨by rw [i1], i2⟩
  have tw2 : ∀ (B C : List UInt8), B.all q = true → (∃ c r, C = c :: r ∧ q c = false) → (B ++ C).takeWhile q = B ∧ (B ++ C).dropWhile q = C := by
    intro B C hB hC
    induction B with
    | nil => obtain ⟨c, r, rfl, hc⟩ := hC; simp [hc]
    | cons b B ih =>
      simp only [List.all_cons, Bool.and_eq_true] at hB
      obtain ⟨i1, i2⟩ := ih hB.2
      simp only [List.cons_append, List.takeWhile_cons, List.dropWhile_cons, hB.1, if_true]
      exact ⟨by rw [i1], i2⟩
  obtain ⟨x1, x2⟩ := tw A B C hA hB nB
  obtain ⟨y1, y2⟩ := tw A' B' C' hA' hB' nB'
  rw [e] at x1 x2
  have eA : A = A' := x1.symm.trans y1
  have eBC : B ++ C = B' ++ C' := x2.symm.trans y2
  obtain ⟨u1, u2⟩ := tw2 B C hB hC
  obtain ⟨v1, v2⟩ := tw2 B' C' hB' hC'
  rw [eBC] at u1 u2
  exact ⟨eA, u1.symm.trans v1, u2.symm.trans v2⟩
theorem test_inj {fd op nu fd' op' nu' : Int} {tx tx' : ByteArray} {ot ot' : Int} (h : anyE fd op nu tx ot = 0) (h' : anyE fd' op' nu' tx' ot' = 0) (e : testS fd op nu tx ot = testS fd' op' nu' tx' ot') : fd = fd' ∧ op = op' ∧ nu = nu' ∧ tx = tx' ∧ ot = ot' := by
  unfold testS at e
  rw [if_pos h, if_pos h'] at e
  obtain ⟨l, hl⟩ := anyE_zero h
  obtain ⟨l', hl'⟩ := anyE_zero h'
  have v := valS_head hl
  have v' := valS_head hl'
  obtain ⟨h1, h2, h3, h4, h5, h6, h7⟩ := checkF_zero hl
  obtain ⟨k1, k2, k3, k4, k5, k6, k7⟩ := checkF_zero hl'
  have r1 := allow_range h1
  have r2 := allow_range k1
  have e1 := congrArg (fun s : ByteArray => s.data.toList) e
  simp only [ByteArray.data_append, Array.toList_append] at e1
  have nb : ∀ {o : Int}, 1 ≤ o ∧ o ≤ 8 → (opN o.toNat).data.toList ≠ [] := fun {o} ho => by
    have H := op_ne ⟨o.toNat - 1, by omega⟩
    have e : o.toNat - 1 + 1 = o.toNat := by omega
    simpa only [e] using H
  obtain ⟨eA, eB, eC⟩ := parts_unique (p := fun c => !opc c) (q := opc) (fun _ => rfl) (field_noop ⟨fd.toNat, by omega⟩) (field_noop ⟨fd'.toNat, by omega⟩) (op_all ⟨op.toNat, by omega⟩) (op_all ⟨op'.toNat, by omega⟩) (nb h3) (nb k3) v v' e1
  have efd : fd = fd' := fieldInt_inj r1 r2 (bytes_ext eA)
  have eop : op = op' := opInt_inj h3 k3 (bytes_ext eB)
  subst efd eop
  have eV : valS fd nu tx ot = valS fd nu' tx' ot' := bytes_ext eC
  have empty : ∀ {s : ByteArray}, s.size = 0 → s = ⟨#[]⟩ := fun {s} hs => bytes_ext (by
    have : s.data.toList.length = 0 := by rw [Array.length_toList]; exact hs
    rw [List.eq_nil_of_length_eq_zero this])
  refine ⟨rfl, rfl, ?_⟩
  cases ht : textB fd
  · have z1 : tx = ⟨#[]⟩ := empty (by rcases h7 with h | h; rw [ht] at h; cases h; exact h)
    have z2 : tx' = ⟨#[]⟩ := empty (by rcases k7 with h | h; rw [ht] at h; cases h; exact h)
    unfold valS at eV
    rw [if_neg (show ¬ textB fd = true by rw [ht]; decide), if_neg (show ¬ textB fd = true by rw [ht]; decide)] at eV
    by_cases o1 : ot = 0
    · by_cases o2 : ot' = 0
      · rw [if_neg (by simpa using o1), if_neg (by simpa using o2)] at eV
        exact ⟨numS_injF eV, by rw [z1, z2], by rw [o1, o2]⟩
      · rw [if_neg (by simpa using o1), if_pos o2] at eV
        have ha : allowB l' ot' = true := by rcases k2 with h | h; exact absurd h o2; exact h.1
        obtain ⟨c, r, e2, c1, c2⟩ := fieldInt_head (allow_range ha)
        obtain ⟨d, r', e3, d1⟩ := itoa_head nu
        have e4 : (numS nu).data.toList = d :: r' := by unfold numS; simpa using e3
        rw [eV, e2] at e4
        injection e4 with e4 _
        subst e4; omega
    · by_cases o2 : ot' = 0
      · rw [if_pos o1, if_neg (by simpa using o2)] at eV
        have ha : allowB l ot = true := by rcases h2 with h | h; exact absurd h o1; exact h.1
        obtain ⟨c, r, e2, c1, c2⟩ := fieldInt_head (allow_range ha)
        obtain ⟨d, r', e3, d1⟩ := itoa_head nu'
        have e4 : (numS nu').data.toList = d :: r' := by unfold numS; simpa using e3
        rw [← eV, e2] at e4
        injection e4 with e4 _
        subst e4; omega
      · rw [if_pos o1, if_pos o2] at eV
        have ha : allowB l ot = true := by rcases h2 with h | h; exact absurd h o1; exact h.1
        have ha' : allowB l' ot' = true := by rcases k2 with h | h; exact absurd h o2; exact h.1
        have n1 : nu = 0 := by rcases h5 with h | h; exact absurd h o1; exact h.1
        have n2 : nu' = 0 := by rcases k5 with h | h; exact absurd h o2; exact h.1
        exact ⟨by rw [n1, n2], by rw [z1, z2], fieldInt_inj (allow_range ha) (allow_range ha') eV⟩
  · have o1 : ot = 0 := by
      rcases h2 with h | h
      · exact h
      · have := owner_text h.2.1; rw [ht] at this; cases this
    have o2 : ot' = 0 := by
      rcases k2 with h | h
      · exact h
      · have := owner_text h.2.1; rw [ht] at this; cases this
    have s1 : nu = 0 ∧ tx.size ≠ 0 ∧ tx.size ≤ 640 := by rcases h6 with h | h; rw [ht] at h; cases h; exact h
    have s2 : nu' = 0 ∧ tx'.size ≠ 0 ∧ tx'.size ≤ 640 := by rcases k6 with h | h; rw [ht] at h; cases h; exact h
    have w1 : valS fd nu tx ot = quoteS tx := by unfold valS; rw [if_neg (by simpa using o1), if_pos ht]
    have w2 : valS fd nu' tx' ot' = quoteS tx' := by unfold valS; rw [if_neg (by simpa using o2), if_pos ht]
    rw [w1, w2] at eV
    exact ⟨by rw [s1.1, s2.1], quoteS_injF s1.2.2 s2.2.2 eV, by rw [o1, o2]⟩
end Go.Proofs.YtbbihfafkpniiaaGreatDoor
/- unhex of package value returns what unhexL reads. -/
namespace Go.Proofs.YtbbihfafkpniiaaGreatDoor
open Go.RowKit
def uhS (s : ByteArray) : ByteArray := match unhexL s.data.toList with | some t => ⟨t.toArray⟩ | none => ⟨#[]⟩
def uhB (s : ByteArray) : Bool := (unhexL s.data.toList).isSome
/-- What is left to be read, behind what has been read. -/
def Left (s : ByteArray) (i : Nat) (acc : List UInt8) : Prop := unhexL s.data.toList = (unhexL (s.data.toList.drop i)).map (acc ++ ·)
theorem Left.start (s : ByteArray) : Left s 0 [] := by unfold Left; simp
theorem drop_two (s : ByteArray) (i : Nat) (h0 : i < s.size) (h : i + 1 < s.size) : s.data.toList.drop i = s[i] :: s[i + 1] :: s.data.toList.drop (i + 2) := by
  rw [List.drop_eq_getElem_cons (by simpa using h0), List.drop_eq_getElem_cons (by simpa using h)]; rfl
theorem Left.step {s : ByteArray} {i : Nat} {acc : List UInt8} (h : Left s i acc) (h0 : i < s.size) (hj : i + 1 < s.size) (ha : 0 ≤ unhexd s[i]) (hb : 0 ≤ unhexd s[i + 1]) : Left s (i + 2) (acc ++ [pairc s[i] s[i + 1]]) := by
  unfold Left at *
  rw [h, drop_two s i h0 hj, unhexL, if_neg (by omega)]
  cases unhexL (s.data.toList.drop (i + 2)) <;> simp
theorem Left.stop {s : ByteArray} {i : Nat} {acc : List UInt8} (h : Left s i acc) (h0 : i < s.size) (hj : i + 1 < s.size) (ha : unhexd s[i] < 0 ∨ unhexd s[i + 1] < 0) : unhexL s.data.toList = none := by
  unfold Left at h
  rw [h, drop_two s i h0 hj, unhexL, if_pos ha]; rfl
theorem Left.done {s : ByteArray} {i : Nat} {acc : List UInt8} (h : Left s i acc) (hj : s.size ≤ i) : unhexL s.data.toList = some acc := by
  unfold Left at h
  rw [h, List.drop_eq_nil_of_le (by simpa using hj)]; simp [unhexL]
theorem unhexL_odd : ∀ l : List UInt8, l.length % 2 = 1 → unhexL l = none
  | [], h => by simp at h
  | [_], _ => rfl
  | a :: b :: r, h => by
    rw [unhexL, unhexL_odd r (by simp at h; omega)]; split <;> rfl
theorem or16 : ∀ a b : Fin 16, bits .or .i64 ((a.val : Int) * 16) (b.val : Int) = 16 * (a.val : Int) + (b.val : Int) := by decide +kernel
theorem or_pairc (a b : UInt8) (ha : 0 ≤ unhexd a) (hb : 0 ≤ unhexd b) : bits .or .i64 (unhexd a * 16) (unhexd b) = ((pairc a b).toNat : Int) := by
  have h1 := unhexd_bounds a
  have h2 := unhexd_bounds b
  rw [pairc_val a b ha hb]
  have := or16 ⟨(unhexd a).toNat, by omega⟩ ⟨(unhexd b).toNat, by omega⟩
  simp only [Int.toNat_of_nonneg ha, Int.toNat_of_nonneg hb] at this
  exact this
theorem tupSB {a b : ByteArray} {m n : Bool} (h : a = b) (k : m = n) : Ending.returned (.tuple #[.string a, .bool m]) = .returned (.tuple #[.string b, .bool n]) := by rw [h, k]
set_option maxRecDepth 100000 in
set_option maxHeartbeats 1000000 in
theorem vunhex_even (s : ByteArray) (w : World) (hs : s.size ≤ 1000000) (he : s.size % 2 = 0) (ht : Tab w) :
    Calls Tryz.prog 133 #[.string s] w fun e w' => e = .returned (.tuple #[.string (uhS s), .bool (uhB s)]) ∧ Below w.heap.size w w' := by
  obtain ⟨i0, hi, hz0, hz1, hz2⟩ := info_parts Tryz.info5
  have h8 : (((s.size : Int) % 2) != 0) = false := by simp; omega
  have HE := Lib.hid he
  clear he
  go_enter Tryz.func133, Tryz.ntmps133
  go_wp2_with (at_make; refine wpList_make_own _ rfl _ _ 48 rfl w.heap.size 5 i0 _ 1 Tryz.underlying48 hi hz0 hz1 _ _ _ (s.size / 2) rfl rfl (by omega) (by rw [hz2]; omega) (by unfold maxLen; omega) (Nat.le_refl _) ?_; intro w1 hown1 hg1)
  have hb1 : Below w.heap.size w w1 := (Below.refl _ _).grown hg1 (Nat.le_refl _) (by simp)
  clear hg1
  go_loopw [4, 5] (fun v x wr => ∃ (i : Nat) (acc : List UInt8), i ≤ s.size ∧ x = .int .i64 (i : Int) ∧ acc.length ≤ 1000000 ∧ wr.ownsRow w.heap.size 5 1 v acc.length (acc.map bv) ∧ Below w.heap.size w wr ∧ Hid (Left s i acc ∧ acc.length * 2 = i)) (fun _ i _ => s.size - (intOf i).toNat)
  case atStart => exact ⟨0, [], by omega, rfl, by simp, by simpa using hown1, hb1, Left.start s, rfl⟩
  case round =>
    obtain ⟨i, acc, hj, rfl, hacc, hown, hb, hleft⟩ := hrel
    clear hown1 hb1
    have ht' := ht.below hb (Nat.le_refl _)
    by_cases hlt : i < s.size
    · have hlt1 : i + 1 < s.size := by have := HE.out; have := hleft.out.2; omega
      have a1 : (0 : Int) ≤ (i : Int) := by omega
      have a2 : (i : Int) < (s.size : Int) := by omega
      have a3 : (0 : Int) ≤ (i : Int) + 1 := by omega
      have a4 : (i : Int) + 1 < (s.size : Int) := by omega
      have b1 := unhexd_bounds s[i]
      have b2 := unhexd_bounds s[i + 1]
      have a5 : IntKind.i64.wrap ((i : Int) + 1) = (i : Int) + 1 := IntWalk.i64_in _ (by omega)
      have a6 : ((i : Int) + 1).toNat = i + 1 := by omega
      go_wp2_with fail
      go_quiet ((go_at_call 150; exact Calls.quiet_of_same (vdigit _ _ ht')))
      clear a5
      by_cases n1 : unhexd s[i] < 0
      · have H := Lib.hid (hleft.out.1.stop hlt hlt1 (.inl n1))
        go_wp2
        go_ret2
        exact ⟨tupSB (by rw [uhS, H.out]) (by rw [uhB, H.out]; rfl), below_drewN hb _⟩
      · by_cases n2 : unhexd s[i + 1] < 0
        · have H := Lib.hid (hleft.out.1.stop hlt hlt1 (.inr n2))
          go_wp2
          go_ret2
          exact ⟨tupSB (by rw [uhS, H.out]) (by rw [uhB, H.out]; rfl), below_drewN hb _⟩
        · have m1 : 0 ≤ unhexd s[i] := by omega
          have m2 : 0 ≤ unhexd s[i + 1] := by omega
          have m3 : unhexd s[i] < 16 := b1.2
          have m4 : unhexd s[i + 1] < 16 := b2.2
          have H := Lib.hid (hleft.out.1.step hlt hlt1 m1 m2)
          clear b1 b2 n1 n2
          have m5 := or_pairc _ _ m1 m2
          have m6 : (0 : Int) ≤ ((pairc s[i] s[i + 1]).toNat : Int) := by omega
          have m7 : ((pairc s[i] s[i + 1]).toNat : Int) < 256 := by have := (pairc s[i] s[i + 1]).toNat_lt; omega
          have hown' : (wr.drewN nq).ownsRow w.heap.size 5 1 u4 acc.length (acc.map bv) := hown
          go_wp2_with (at_builtin; refine wpList_append_own _ rfl _ _ 48 rfl w.heap.size 5 i0 _ 1 1 Tryz.underlying48 hi hz0 hz1 hz2 rfl (by omega) _ _ _ rfl (hown'.alloc _) ⟨wr.heap.size, 0, none⟩ 1 1 [bv (pairc s[i] s[i + 1])] rfl rfl (cell_one_new _ _ _) (by simp [Value.oneCell']) (by unfold maxLen; omega) (by omega) (by have := hb.size; simp; omega) ?_; intro v2 w2 hown2 hg2 _)
          have hb2 : Below w.heap.size w w2 := below_grown_own ((below_drewN hb nq).alloc hb.size _) hown (Nat.le_refl _) hg2 (by have := hb.size; simp; omega)
          clear hg2 m5
          go_roundw
          case rel => exact ⟨i + 2, acc ++ [pairc s[i] s[i + 1]], by omega, by go_num, by have := hleft.out.2; simp; omega, by simpa using hown2, hb2, H.out, by have := hleft.out.2; simp; omega⟩
          case measure => simp [intOf]; omega
    · have H := Lib.hid (hleft.out.1.done (by omega))
      have hcv := conv_own (P := Tryz.prog) (src := 48) (dst := 9) hown Tryz.underlying48 Tryz.underlying5 Tryz.underlying9
      rw [show (⟨acc.toArray⟩ : ByteArray) = uhS s by rw [uhS, H.out]] at hcv
      go_wp2
      go_ret2
      exact ⟨tupSB rfl (by rw [uhB, H.out]; rfl), hb⟩
theorem vunhex_odd (s : ByteArray) (w : World) (hs : s.size ≤ 1000000) (he : s.size % 2 = 1) :
    Calls Tryz.prog 133 #[.string s] w fun e w' => e = .returned (.tuple #[.string (uhS s), .bool (uhB s)]) ∧ Below w.heap.size w w' := by
  have h8 : (((s.size : Int) % 2) != 0) = true := by simp; omega
  have H := Lib.hid (unhexL_odd s.data.toList (by simpa using he))
  clear he
  go_enter Tryz.func133, Tryz.ntmps133
  go_wp2
  go_ret2
  exact ⟨tupSB (by rw [uhS, H.out]) (by rw [uhB, H.out]; rfl), Below.refl _ _⟩
theorem vunhex (s : ByteArray) (w : World) (hs : s.size ≤ 1000000) (ht : Tab w) :
    Calls Tryz.prog 133 #[.string s] w fun e w' => e = .returned (.tuple #[.string (uhS s), .bool (uhB s)]) ∧ Below w.heap.size w w' := by
  rcases Nat.mod_two_eq_zero_or_one s.size with h | h
  · exact vunhex_even s w hs h ht
  · exact vunhex_odd s w hs h
end Go.Proofs.YtbbihfafkpniiaaGreatDoor
/- Unquote of package value returns unqS and unqE. -/
namespace Go.Proofs.YtbbihfafkpniiaaGreatDoor
open Go.RowKit
theorem mid_list (s : ByteArray) : (s.extract 1 (s.size - 1)).data.toList = s.data.toList.tail.dropLast := by
  rw [ByteArray.data_extract, Array.toList_extract, List.extract_eq_take_drop, ← List.drop_one, List.dropLast_eq_take, List.length_drop]
  rfl
theorem tail_list (s : ByteArray) : (s.extract 1 s.size).data.toList = s.data.toList.tail := by
  rw [ByteArray.data_extract, Array.toList_extract, List.extract_eq_take_drop, ← List.drop_one]
  exact List.take_of_length_le (by rw [List.length_drop]; exact Nat.le_refl _)
theorem head_list (s : ByteArray) (h : 0 < s.size) : s.data.toList = s[0] :: s.data.toList.tail := by
  have : s.data.toList = s.data.toList.drop 0 := rfl
  rw [this, List.drop_eq_getElem_cons (by simpa using h)]; rfl
theorem last_list (s : ByteArray) (h : s.size - 1 < s.size) : s.data.toList.getLast? = some s[s.size - 1] := by
  rw [List.getLast?_eq_getElem?, List.getElem?_eq_getElem (by simpa using h)]; rfl
theorem byte_eq {c : UInt8} {n : Nat} (hn : n < 256) (h : ((c.toNat : Int) == (n : Int)) = true) : c = UInt8.ofNat n := by
  apply UInt8.toNat.inj
  rw [UInt8.toNat_ofNat']
  have : (c.toNat : Int) = (n : Int) := by simpa using h
  omega
theorem ext_eq (s : ByteArray) {l : List UInt8} (h : s.data.toList = l) : s = ⟨l.toArray⟩ := by
  apply ByteArray.ext; rw [← h]
def inQ (s : ByteArray) (h : 0 < s.size) (h1 : s.size - 1 < s.size) : Prop := ((s[0].toNat : Int) == 34) = true ∧ ((s[s.size - 1].toNat : Int) == 34) = true
theorem unqO_A (s : ByteArray) (hs : 2 ≤ s.size) (h0 : ((s[0].toNat : Int) == 34) = true) (h1 : ((s[s.size - 1].toNat : Int) == 34) = true) :
    unqO s.data.toList = if safeB (s.extract 1 (s.size - 1)).data.toList ∧ (s.extract 1 (s.size - 1)).size ≤ 640 then some (s.extract 1 (s.size - 1)).data.toList else none := by
  have e0 : s[0] = 34 := byte_eq (n := 34) (by omega) h0
  have e1 : s[s.size - 1] = 34 := byte_eq (n := 34) (by omega) h1
  have hl : s.data.toList.length = s.size := Array.length_toList
  have hm : (s.extract 1 (s.size - 1)).size = s.data.toList.tail.dropLast.length := by rw [← mid_list, Array.length_toList]; rfl
  rw [hm, mid_list]
  unfold unqO
  rw [if_pos ⟨by omega, by rw [head_list s (by omega), e0]; rfl, by rw [last_list s (by omega), e1]⟩]
theorem unqO_B (s : ByteArray) (hs : 1 ≤ s.size) (h0 : ((s[0].toNat : Int) == 120) = true) :
    unqO s.data.toList = match unhexL (s.extract 1 s.size).data.toList with | some t => if safeB t = false ∧ t.length ≤ 640 then some t else none | none => none := by
  have e0 : s[0] = 120 := byte_eq (n := 120) (by omega) h0
  rw [tail_list]
  unfold unqO
  rw [if_neg (by rw [head_list s (by omega), e0]; simp)]
  rw [head_list s (by omega), e0]
  rfl
theorem unqO_C0 (s : ByteArray) (hs : s.size = 0) : unqO s.data.toList = none := by
  have : s.data.toList = [] := List.eq_nil_of_length_eq_zero (Array.length_toList.trans hs)
  rw [this]; rfl
theorem unqO_C (s : ByteArray) (hs : 1 ≤ s.size) (h0 : ((s[0].toNat : Int) == 120) = false) (h : s.size < 2 ∨ ((s[0].toNat : Int) == 34) = false ∨ ((s[s.size - 1].toNat : Int) == 34) = false) :
    unqO s.data.toList = none := by
  have e0 : s[0] ≠ 120 := fun e => by rw [e] at h0; exact absurd h0 (by decide)
  have hl : s.data.toList.length = s.size := Array.length_toList
  unfold unqO
  rw [if_neg]
  · rw [head_list s (by omega)]
    simp [e0]
  · rintro ⟨k1, k2, k3⟩
    rcases h with h | h | h
    · omega
    · rw [head_list s (by omega)] at k2
      injection k2 with k2
      rw [k2] at h; exact absurd h (by decide)
    · rw [last_list s (by omega)] at k3
      injection k3 with k3
      rw [k3] at h; exact absurd h (by decide)
theorem extract_size (s : ByteArray) (h : s.size ≤ 1000000) (a b : Nat) : (s.extract a b).size ≤ 1000000 := by
  simp; omega
theorem mid_size (s : ByteArray) : (s.extract 1 (s.size - 1)).size = s.size - 1 - 1 := by
  simp
set_option maxHeartbeats 1000000 in
theorem vunq_A (s : ByteArray) (w : World) (hs : s.size ≤ 1000000) (h2 : 2 ≤ s.size) (h0 : ((s[0].toNat : Int) == 34) = true) (h1 : ((s[s.size - 1].toNat : Int) == 34) = true) :
    Calls Tryz.prog 113 #[.string s] w fun e w' => e = .returned (.tuple #[.string (unqS s), .int .i64 (unqE s)]) ∧ Below w.heap.size w w' := by
  have hU := Lib.hid (unqO_A s h2 h0 h1)
  have hz := extract_size s hs 1 (s.size - 1)
  have hm := mid_size s
  cases hsafe : safeB (s.extract 1 (s.size - 1)).data.toList
  · have HS := Lib.hid hsafe
    have H := Lib.hid (hU.out.trans (if_neg (by rw [hsafe]; simp)))
    clear hsafe hU hm
    go_enter Tryz.func113, Tryz.ntmps113
    go_wp2_with (go_at_call 104; refine (vsafe _ _ (by unfold maxLen; omega)).mono ?_; rintro e w' ⟨rfl, rfl⟩; rw [HS.out])
    go_ret2
    exact ⟨tup (unqS_none H.out).symm (unqE_none H.out).symm, Below.refl _ _⟩
  · have HS := Lib.hid hsafe
    by_cases hlen : s.size - 1 - 1 ≤ 640
    · have H := Lib.hid (hU.out.trans (if_pos ⟨hsafe, by omega⟩))
      have hl2 : decide (640 < s.size - 1 - 1) = false := by simp; omega
      have hl3 : decide (640 < ((s.size - 1 - 1 : Nat) : Int)) = false := by simp; omega
      have hl4 : ((s.size - 1 - 1 : Nat) : Int) ≤ 640 := by omega
      clear hsafe hU hm
      go_enter Tryz.func113, Tryz.ntmps113
      go_wp2_with (go_at_call 104; refine (vsafe _ _ (by unfold maxLen; omega)).mono ?_; rintro e w' ⟨rfl, rfl⟩; rw [HS.out])
      go_ret2
      exact ⟨tup (by rw [unqS_some H.out]) (unqE_some H.out).symm, Below.refl _ _⟩
    · have H := Lib.hid (hU.out.trans (if_neg (by omega)))
      have hl2 : decide (640 < s.size - 1 - 1) = true := by simp; omega
      have hl3 : decide (640 < ((s.size - 1 - 1 : Nat) : Int)) = true := by simp; omega
      have hl4 : 640 < ((s.size - 1 - 1 : Nat) : Int) := by omega
      clear hsafe hU hm
      go_enter Tryz.func113, Tryz.ntmps113
      go_wp2_with (go_at_call 104; refine (vsafe _ _ (by unfold maxLen; omega)).mono ?_; rintro e w' ⟨rfl, rfl⟩; rw [HS.out])
      go_ret2
      exact ⟨tup (unqS_none H.out).symm (unqE_none H.out).symm, Below.refl _ _⟩
theorem uh_none {s : ByteArray} (h : unhexL s.data.toList = none) : uhB s = false := by unfold uhB; rw [h]; rfl
theorem uh_some {s : ByteArray} {t : List UInt8} (h : unhexL s.data.toList = some t) : uhB s = true ∧ uhS s = ⟨t.toArray⟩ := by unfold uhB uhS; rw [h]; exact ⟨rfl, rfl⟩
set_option maxHeartbeats 1000000 in
theorem vunq_B (s : ByteArray) (w : World) (hs : s.size ≤ 1000000) (ht : Tab w) (h2 : 1 ≤ s.size) (h0 : ((s[0].toNat : Int) == 120) = true) (h34 : ((s[0].toNat : Int) == 34) = false) :
    Calls Tryz.prog 113 #[.string s] w fun e w' => e = .returned (.tuple #[.string (unqS s), .int .i64 (unqE s)]) ∧ Below w.heap.size w w' := by
  have hU := Lib.hid (unqO_B s h2 h0)
  have hz := extract_size s hs 1 s.size
  have h1 : 0 < s.size := by omega
  cases hx : unhexL (s.extract 1 s.size).data.toList with
  | none =>
    have HX := Lib.hid (uh_none hx)
    have H := Lib.hid (show unqO s.data.toList = none by rw [hU.out, hx])
    clear hx hU
    by_cases h3 : 2 ≤ s.size
    all_goals
      go_enter Tryz.func113, Tryz.ntmps113
      go_wp2_with (go_at_call 133; refine (vunhex _ _ hz ht).mono ?_; rintro e w' ⟨rfl, hb⟩; rw [HX.out])
      go_ret2
      exact ⟨tup (unqS_none H.out).symm (unqE_none H.out).symm, hb⟩
  | some t =>
    obtain ⟨g1, g2⟩ := uh_some hx
    have G1 := Lib.hid g1
    have G2 := Lib.hid g2
    have hlt : t.length ≤ 1000000 := by
      have e := hexL_unhexL _ _ hx
      have := hexL_length t
      rw [e, Array.length_toList] at this
      have hz' : (s.extract 1 s.size).data.size ≤ 1000000 := hz
      omega
    have hU' := Lib.hid (show unqO s.data.toList = if safeB t = false ∧ t.length ≤ 640 then some t else none by rw [hU.out, hx])
    clear hx hU g1 g2
    cases hsafe : safeB t
    · have HS := Lib.hid hsafe
      by_cases hlen : t.length ≤ 640
      · have H := Lib.hid (hU'.out.trans (if_pos ⟨hsafe, hlen⟩))
        have hl2 : decide (640 < t.length) = false := by simp; omega
        have hl3 : decide (640 < (t.length : Int)) = false := by simp; omega
        clear hsafe hU'
        by_cases h3 : 2 ≤ s.size
        all_goals
          go_enter Tryz.func113, Tryz.ntmps113
          go_wp2_with (first
            | (go_at_call 133; refine (vunhex _ _ hz ht).mono ?_; rintro e w' ⟨rfl, hb⟩; rw [G1.out, G2.out])
            | (go_at_call 104; refine (vsafe _ _ (by unfold maxLen; simp [ByteArray.size]; omega)).mono ?_; rintro e w' ⟨rfl, rfl⟩; rw [show safeB (⟨t.toArray⟩ : ByteArray).data.toList = false from HS.out]))
          go_ret2
          exact ⟨tup (unqS_some H.out).symm (unqE_some H.out).symm, hb⟩
      · have H := Lib.hid (hU'.out.trans (if_neg (by omega)))
        have hl2 : decide (640 < t.length) = true := by simp; omega
        have hl3 : decide (640 < (t.length : Int)) = true := by simp; omega
        clear hsafe hU'
        by_cases h3 : 2 ≤ s.size
        all_goals
          go_enter Tryz.func113, Tryz.ntmps113
          go_wp2_with (first
            | (go_at_call 133; refine (vunhex _ _ hz ht).mono ?_; rintro e w' ⟨rfl, hb⟩; rw [G1.out, G2.out])
            | (go_at_call 104; refine (vsafe _ _ (by unfold maxLen; simp [ByteArray.size]; omega)).mono ?_; rintro e w' ⟨rfl, rfl⟩; rw [show safeB (⟨t.toArray⟩ : ByteArray).data.toList = false from HS.out]))
          go_ret2
          exact ⟨tup (unqS_none H.out).symm (unqE_none H.out).symm, hb⟩
    · have HS := Lib.hid hsafe
      have H := Lib.hid (hU'.out.trans (if_neg (by rw [hsafe]; simp)))
      clear hsafe hU'
      by_cases h3 : 2 ≤ s.size
      all_goals
        go_enter Tryz.func113, Tryz.ntmps113
        go_wp2_with (first
          | (go_at_call 133; refine (vunhex _ _ hz ht).mono ?_; rintro e w' ⟨rfl, hb⟩; rw [G1.out, G2.out])
          | (go_at_call 104; refine (vsafe _ _ (by unfold maxLen; simp [ByteArray.size]; omega)).mono ?_; rintro e w' ⟨rfl, rfl⟩; rw [show safeB (⟨t.toArray⟩ : ByteArray).data.toList = true from HS.out]))
        go_ret2
        exact ⟨tup (unqS_none H.out).symm (unqE_none H.out).symm, hb⟩
set_option maxHeartbeats 1000000 in
theorem vunq_C0 (s : ByteArray) (w : World) (hs : s.size = 0) :
    Calls Tryz.prog 113 #[.string s] w fun e w' => e = .returned (.tuple #[.string (unqS s), .int .i64 (unqE s)]) ∧ Below w.heap.size w w' := by
  have H := Lib.hid (unqO_C0 s hs)
  have h1 : (s.size : Int) < 1 := by omega
  clear hs
  go_enter Tryz.func113, Tryz.ntmps113
  go_wp2
  go_ret2
  exact ⟨tup (unqS_none H.out).symm (unqE_none H.out).symm, Below.refl _ _⟩
set_option maxHeartbeats 1000000 in
theorem vunq_C (s : ByteArray) (w : World) (hs : s.size ≤ 1000000) (h2 : 1 ≤ s.size) (h0 : ((s[0].toNat : Int) == 120) = false) (h : s.size < 2 ∨ ((s[0].toNat : Int) == 34) = false ∨ ((s[s.size - 1].toNat : Int) == 34) = false) :
    Calls Tryz.prog 113 #[.string s] w fun e w' => e = .returned (.tuple #[.string (unqS s), .int .i64 (unqE s)]) ∧ Below w.heap.size w w' := by
  have H := Lib.hid (unqO_C s h2 h0 h)
  have h1 : 0 < s.size := by omega
  by_cases h3 : 2 ≤ s.size
  · have h4 : ((s[0].toNat : Int) == 34) = false ∨ (((s[0].toNat : Int) == 34) = true ∧ ((s[s.size - 1].toNat : Int) == 34) = false) := by
      rcases h with h | h | h
      · omega
      · exact .inl h
      · cases hh : ((s[0].toNat : Int) == 34)
        · exact .inl rfl
        · exact .inr ⟨rfl, h⟩
    clear h
    rcases h4 with h4 | ⟨h4, h5⟩
    all_goals
      go_enter Tryz.func113, Tryz.ntmps113
      go_wp2
      go_ret2
      exact ⟨tup (unqS_none H.out).symm (unqE_none H.out).symm, Below.refl _ _⟩
  · clear h
    go_enter Tryz.func113, Tryz.ntmps113
    go_wp2
    go_ret2
    exact ⟨tup (unqS_none H.out).symm (unqE_none H.out).symm, Below.refl _ _⟩
theorem vunquote (s : ByteArray) (w : World) (hs : s.size ≤ 1000000) (ht : Tab w) :
    Calls Tryz.prog 113 #[.string s] w fun e w' => e = .returned (.tuple #[.string (unqS s), .int .i64 (unqE s)]) ∧ Below w.heap.size w w' := by
  by_cases h : 1 ≤ s.size
  · cases h0 : ((s[0].toNat : Int) == 120)
    · by_cases hq : 2 ≤ s.size ∧ ((s[0].toNat : Int) == 34) = true ∧ ((s[s.size - 1].toNat : Int) == 34) = true
      · exact vunq_A s w hs hq.1 hq.2.1 hq.2.2
      · refine vunq_C s w hs h h0 ?_
        by_cases k1 : s.size < 2
        · exact .inl k1
        · cases k2 : ((s[0].toNat : Int) == 34)
          · exact .inr (.inl rfl)
          · cases k3 : ((s[s.size - 1].toNat : Int) == 34)
            · exact .inr (.inr rfl)
            · exact absurd ⟨by omega, k2, k3⟩ hq
    · have : (s[0].toNat : Int) = 120 := by simpa using h0
      exact vunq_B s w hs ht h h0 (by rw [this]; rfl)
  · exact vunq_C0 s w (by omega)
end Go.Proofs.YtbbihfafkpniiaaGreatDoor

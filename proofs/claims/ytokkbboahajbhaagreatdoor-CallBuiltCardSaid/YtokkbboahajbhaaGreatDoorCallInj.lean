/- Two calls that Check accepts are equal exactly if their texts are: plain facts. -/
import Derived.Test.YtokkbboahajbhaaGreatDoorCallFPlain
import Derived.Test.YtokkbboahajbhaaGreatDoorNumPlain
import Derived.Test.YtokkbboahajbhaaGreatDoorUnqPlain
namespace Go.Proofs.YtokkbboahajbhaaGreatDoor
open Go.RowKit
/-- A byte that is no space and below 127. -/
def visC (c : UInt8) : Bool := decide (33 ≤ c.toNat) && decide (c.toNat ≤ 126)
theorem okc_visC {c : UInt8} (h : okc c = true) : visC c = true := by unfold okc at h; unfold visC; simp at *; omega
theorem dig_visC {c : UInt8} (h : digB c = true) : visC c = true := by unfold digB at h; unfold visC; simp at *; omega
theorem hexd_visC (n : Nat) (h : n < 16) : visC (hexd n) = true := by
  unfold hexd visC
  split <;> (rw [UInt8.toNat_ofNat']; simp; omega)
theorem hexL_visC (l : List UInt8) : (hexL l).all visC = true := by
  induction l with
  | nil => rfl
  | cons c l ih =>
    have e : hexL (c :: l) = hex2 c ++ hexL l := rfl
    rw [e, List.all_append, ih]
    have hc := c.toNat_lt
    simp [hex2, hexd_visC (c.toNat / 16) (by omega), hexd_visC (c.toNat % 16) (by omega)]
theorem quoteL_visC (l : List UInt8) : (quoteL l).all visC = true := by
  unfold quoteL
  split
  · rename_i h
    rw [List.all_cons, List.all_append]
    have : l.all visC = true := List.all_eq_true.2 fun c hc => okc_visC (List.all_eq_true.1 h c hc)
    rw [this]; rfl
  · rw [List.all_cons, hexL_visC]; rfl
theorem itoa_visC (n : Int) : (Lib.itoa n).all visC = true := by
  have hd : ∀ u : Nat, (Lib.decDigits u).all visC = true := fun u => List.all_eq_true.2 fun c hc => dig_visC (List.all_eq_true.1 (dec_props u).2.1 c hc)
  unfold Lib.itoa
  split
  · rw [List.all_cons, hd]; rfl
  · exact hd _
def NoSp (s : ByteArray) : Prop := ∀ c ∈ s.data.toList, c ≠ 32
theorem nosp_of {s : ByteArray} (h : s.data.toList.all visC = true) : NoSp s := fun c hc e => by
  have := List.all_eq_true.1 h c hc
  rw [e] at this; exact absurd this (by decide)
theorem sp_split : ∀ {a b t u : List UInt8}, (∀ c ∈ a, c ≠ 32) → (∀ c ∈ b, c ≠ 32) → (t = [] ∨ ∃ r, t = 32 :: r) → (u = [] ∨ ∃ r, u = 32 :: r) → a ++ t = b ++ u → a = b ∧ t = u
  | [], [], t, u, _, _, _, _, h => by simpa using h
  | [], y :: b, t, u, _, hb, ht, _, h => by
    rcases ht with rfl | ⟨r, rfl⟩
    · simp at h
    · simp at h; exact absurd h.1.symm (hb y List.mem_cons_self)
  | x :: a, [], t, u, ha, _, _, hu, h => by
    rcases hu with rfl | ⟨r, rfl⟩
    · simp at h
    · simp at h; exact absurd h.1 (ha x List.mem_cons_self)
  | x :: a, y :: b, t, u, ha, hb, ht, hu, h => by
    simp only [List.cons_append, List.cons.injEq] at h
    obtain ⟨h1, h2⟩ := sp_split (fun c hc => ha c (List.mem_cons_of_mem _ hc)) (fun c hc => hb c (List.mem_cons_of_mem _ hc)) ht hu h.2
    exact ⟨by rw [h.1, h1], h2⟩
theorem tail_form (L : List (List UInt8)) : Lib.joinTail [32] L = [] ∨ ∃ r, Lib.joinTail [32] L = 32 :: r := by
  cases L with
  | nil => exact .inl rfl
  | cons x L => exact .inr ⟨x ++ Lib.joinTail [32] L, by simp [Lib.joinTail]⟩
theorem tail_inj : ∀ {L M : List ByteArray}, (∀ s ∈ L, NoSp s) → (∀ s ∈ M, NoSp s) → Lib.joinTail [32] (L.map (·.data.toList)) = Lib.joinTail [32] (M.map (·.data.toList)) → L = M
  | [], [], _, _, _ => rfl
  | [], y :: M, _, _, h => by simp [Lib.joinTail] at h
  | x :: L, [], _, _, h => by simp [Lib.joinTail] at h
  | x :: L, y :: M, hL, hM, h => by
    have e1 : ∀ (z : ByteArray) (N : List ByteArray), Lib.joinTail [32] ((z :: N).map (·.data.toList)) = 32 :: (z.data.toList ++ Lib.joinTail [32] (N.map (·.data.toList))) := fun z N => by simp [Lib.joinTail]
    rw [e1, e1] at h
    injection h with _ h
    obtain ⟨h1, h2⟩ := sp_split (hL x List.mem_cons_self) (hM y List.mem_cons_self) (tail_form _) (tail_form _) h
    rw [bytes_ext h1, tail_inj (fun s hs => hL s (List.mem_cons_of_mem _ hs)) (fun s hs => hM s (List.mem_cons_of_mem _ hs)) h2]
theorem catW_inj {x y : ByteArray} {L M : List ByteArray} (hx : NoSp x) (hy : NoSp y) (hL : ∀ s ∈ L, NoSp s) (hM : ∀ s ∈ M, NoSp s) (h : catW x L = catW y M) : x = y ∧ L = M := by
  have h' := congrArg (fun s : ByteArray => s.data.toList) h
  simp only [catW_list] at h'
  obtain ⟨h1, h2⟩ := sp_split hx hy (tail_form _) (tail_form _) h'
  exact ⟨bytes_ext h1, tail_inj hL hM h2⟩
theorem name_nosp (n : Nat) : NoSp (rowC n).name := by
  by_cases h : n < 22
  · have H : ∀ m : Fin 22, (rowC m).name.data.toList.all visC = true := by decide +kernel
    exact nosp_of (H ⟨n, h⟩)
  · have : rowC n = ⟨⟨#[]⟩, 0, 0, 0, 0⟩ := by
      unfold rowC
      rw [List.getD_eq_getElem?_getD, List.getElem?_eq_none (by show rowsC.length ≤ n; have : rowsC.length = 22 := rfl; omega)]; rfl
    rw [this]; intro c hc; cases hc
theorem name_inj {m n : Nat} (hm : m < 22) (hn : n < 22) (h : (rowC m).name = (rowC n).name) : m = n := by
  have H : ∀ i j : Fin 22, (rowC i).name.data.toList = (rowC j).name.data.toList → i = j := by decide +kernel
  have := H ⟨m, hm⟩ ⟨n, hn⟩ (by rw [h])
  exact congrArg Fin.val this
theorem quoteS_inj {a b : ByteArray} (ha : a.size ≤ 640) (hb : b.size ≤ 640) (h : quoteS a = quoteS b) : a = b := by
  have ea : (quoteS a).data.toList = quoteL a.data.toList := by unfold quoteS; rw [if_neg (by omega)]
  have eb : (quoteS b).data.toList = quoteL b.data.toList := by unfold quoteS; rw [if_neg (by omega)]
  have h1 : Quotes (quoteL b.data.toList) a.data.toList := ⟨by rw [← ea, h, eb], by rw [Array.length_toList]; exact ha⟩
  have h2 : Quotes (quoteL b.data.toList) b.data.toList := ⟨rfl, by rw [Array.length_toList]; exact hb⟩
  exact bytes_ext (h1.unique h2)
theorem map_quote_inj : ∀ {L M : List ByteArray}, (∀ s ∈ L, s.size ≤ 640) → (∀ s ∈ M, s.size ≤ 640) → L.map quoteS = M.map quoteS → L = M
  | [], [], _, _, _ => rfl
  | [], _ :: _, _, _, h => by simp at h
  | _ :: _, [], _, _, h => by simp at h
  | x :: L, y :: M, hL, hM, h => by
    simp only [List.map_cons, List.cons.injEq] at h
    rw [quoteS_inj (hL x List.mem_cons_self) (hM y List.mem_cons_self) h.1, map_quote_inj (fun s hs => hL s (List.mem_cons_of_mem _ hs)) (fun s hs => hM s (List.mem_cons_of_mem _ hs)) h.2]
theorem numS_nosp (n : Int) : NoSp (numS n) := nosp_of (by have e : (numS n).data.toList = Lib.itoa n := by unfold numS; simp
                                                           rw [e]; exact itoa_visC n)
theorem quoteS_nosp {s : ByteArray} (h : s.size ≤ 640) : NoSp (quoteS s) := nosp_of (by
  have e : (quoteS s).data.toList = quoteL s.data.toList := by unfold quoteS; rw [if_neg (by omega)]
  rw [e]; exact quoteL_visC _)
theorem words_nosp {m : Nat} {a : Nat → Int} {L : List ByteArray} (h : ∀ s ∈ L, s.size ≤ 640) : ∀ s ∈ numsW m a ++ L.map quoteS, NoSp s := by
  intro s hs
  rcases List.mem_append.1 hs with h1 | h1
  · obtain ⟨j, _, rfl⟩ := List.mem_map.1 h1; exact numS_nosp _
  · obtain ⟨y, hy, rfl⟩ := List.mem_map.1 h1; exact quoteS_nosp (h y hy)
theorem numS_inj {m n : Int} (h : numS m = numS n) : m = n := by
  apply itoa_inj
  have := congrArg (fun s : ByteArray => s.data.toList) h
  simpa [numS] using this
theorem zeroB_at {m : Nat} {a : Nat → Int} (h : zeroB m a = true) {j : Nat} (h1 : m ≤ j) (h2 : j < 4) : a j = 0 := by
  unfold zeroB at h
  have := List.all_eq_true.1 h j (by simpa using h2)
  simp at this
  rcases this with h | h
  · omega
  · exact h
theorem call_inj {z z' : Int} {a a' : Nat → Int} {ps gs ps' gs' : List ByteArray} (h : callE z a ps gs = 0) (h' : callE z' a' ps' gs' = 0) (e : callS z a ps gs = callS z' a' ps' gs') : z = z' ∧ (∀ j, j < 4 → a j = a' j) ∧ ps = ps' ∧ gs = gs' := by
  obtain ⟨c1, c2, c3, c4, c5, c6⟩ := callE_zero h
  obtain ⟨d1, d2, d3, d4, d5, d6⟩ := callE_zero h'
  unfold callS at e
  rw [if_pos h, if_pos h'] at e
  have hs : ∀ s ∈ ps ++ gs, s.size ≤ 640 := fun s hs => by
    rcases List.mem_append.1 hs with h | h
    · have := c5 s h; omega
    · have := c6 s h; omega
  have hs' : ∀ s ∈ ps' ++ gs', s.size ≤ 640 := fun s hs => by
    rcases List.mem_append.1 hs with h | h
    · have := d5 s h; omega
    · have := d6 s h; omega
  have r1 := rowI_toNat c1
  have r2 := rowI_toNat d1
  obtain ⟨e1, e2⟩ := catW_inj (by rw [r1]; exact name_nosp _) (by rw [r2]; exact name_nosp _) (words_nosp hs) (words_nosp hs') e
  rw [r1, r2] at e1
  have hz := name_inj (by omega) (by omega) e1
  have hzz : z = z' := by omega
  subst hzz
  have hl : (numsW (rowI z).nums a).length = (numsW (rowI z).nums a').length := by rw [numsW_len, numsW_len]
  obtain ⟨e3, e4⟩ := List.append_inj e2 hl
  have hq := map_quote_inj hs hs' e4
  obtain ⟨e5, e6⟩ := List.append_inj hq (by omega)
  refine ⟨rfl, fun j hj => ?_, e5, e6⟩
  by_cases hm : j < (rowI z).nums
  · have h1 : (numsW (rowI z).nums a)[j]? = (numsW (rowI z).nums a')[j]? := by rw [e3]
    unfold numsW at h1
    rw [List.getElem?_map, List.getElem?_map, List.getElem?_range hm] at h1
    simp at h1
    exact numS_inj h1
  · rw [zeroB_at c2 (by omega) hj, zeroB_at d2 (by omega) hj]
end Go.Proofs.YtokkbboahajbhaaGreatDoor

/- The words of a call's text: plain facts for reading a call. -/
import Derived.Test.YtokkbboahajbhaaGreatDoorCutPlain
import Derived.Test.YtokkbboahajbhaaGreatDoorCallInj
import Derived.Test.YtokkbboahajbhaaGreatDoorCallSame2
import Derived.Test.YtokkbboahajbhaaGreatDoorAtoiPlain
import Derived.Test.YtokkbboahajbhaaGreatDoorRUnq
namespace Go.Proofs.YtokkbboahajbhaaGreatDoor
theorem numC_row {z : Int} (h : 0 ≤ z ∧ z < 22) : numC (rowI z).name = z := by
  have H : ∀ k : Fin 22, numC (rowC k).name = (k.val : Int) := by decide +kernel
  rw [rowI_toNat h]
  have := H ⟨z.toNat, by omega⟩
  rw [this]; show (z.toNat : Int) = z; omega
theorem call_words {s : ByteArray} {L : List ByteArray} {z : Int} {a : Nat → Int} {ps gs : List ByteArray} (h : callE z a ps gs = 0) (e : callS z a ps gs = s) (hw : IsW 32 s L) :
    L = (rowI z).name :: (numsW (rowI z).nums a ++ (ps ++ gs).map quoteS) := by
  obtain ⟨c1, c2, c3, c4, c5, c6⟩ := callE_zero h
  have hs : ∀ s ∈ ps ++ gs, s.size ≤ 640 := fun s hs => by
    rcases List.mem_append.1 hs with h | h
    · have := c5 s h; omega
    · have := c6 s h; omega
  unfold callS at e
  rw [if_pos h] at e
  refine hw.unique ⟨by simp, ?_, ?_⟩
  · intro x hx
    rcases List.mem_cons.1 hx with rfl | hx
    · rw [rowI_toNat c1]; exact name_nosp _
    · exact words_nosp hs x hx
  · rw [← e, catW_list]; rfl
/-- What a word says, if it is the text of a number. -/
def NumW (x : ByteArray) (v : Int) : Prop := ∀ m, I64 m → numS m = x → v = m
theorem numW_rd (x : ByteArray) : NumW x (rdN x) := fun m hm e => by rw [← e]; exact rdN_num m hm.1 hm.2
theorem numW_atoi {x : ByteArray} {v : Int} (h : Lib.atoiAll x.data.toList = .ok v) : NumW x v := fun m hm e => by
  have := atoi_num hm e
  rw [h] at this; injection this
theorem unq_quote {t : ByteArray} (h : t.size ≤ 640) : unqS (quoteS t) = t ∧ unqE (quoteS t) = 0 := by
  have := unq_yes (s := quoteS t) (t := t) ⟨quoteE_none h, rfl⟩
  exact ⟨unqS_some this, unqE_some this⟩
theorem unqS_size (s : ByteArray) : (unqS s).size ≤ 640 := by
  cases h : unqO s.data.toList with
  | none => rw [unqS_none h]; decide
  | some t =>
    rw [unqS_some h]
    have := (of_unqO h).2
    show t.toArray.size ≤ 640
    simpa using this
/-- The call that the words x :: R say. -/
structure FromW (x : ByteArray) (R : List ByteArray) (z : Int) (a : Nat → Int) (ps gs : List ByteArray) : Prop where
  num : z = numC x
  nums : ∀ j (h : j < R.length), j < (rowI z).nums → NumW R[j] (a j)
  zero : ∀ j, (rowI z).nums ≤ j → j < 4 → a j = 0
  pth : ps = ((R.drop (rowI z).nums).take (rowI z).pths).map unqS
  arg : gs = ((R.drop (rowI z).nums).drop (rowI z).pths).map unqS
def I64A (a : Nat → Int) : Prop := ∀ j, j < 4 → I64 (a j)
theorem map_unq_quote {L : List ByteArray} (h : ∀ s ∈ L, s.size ≤ 640) : (L.map quoteS).map unqS = L := by
  rw [List.map_map]
  conv => rhs; rw [← List.map_id L]
  exact List.map_congr_left fun s hs => (unq_quote (h s hs)).1
theorem numsW_get {m : Nat} {a : Nat → Int} {j : Nat} (h : j < m) : (numsW m a)[j]? = some (numS (a j)) := by
  unfold numsW
  rw [List.getElem?_map, List.getElem?_range h]; rfl
theorem FromW.complete {s x : ByteArray} {R : List ByteArray} {z z0 : Int} {a a0 : Nat → Int} {ps gs ps0 gs0 : List ByteArray} (h : FromW x R z a ps gs) (hw : IsW 32 s (x :: R)) (h0 : callE z0 a0 ps0 gs0 = 0) (hi : I64A a0) (e : callS z0 a0 ps0 gs0 = s) : EqC z z0 a a0 ps ps0 gs gs0 := by
  obtain ⟨c1, c2, c3, c4, c5, c6⟩ := callE_zero h0
  have hl := call_words h0 e hw
  injection hl with hx hR
  have hz : z = z0 := by rw [h.num, hx, numC_row c1]
  subst hz
  have hs : ∀ s ∈ ps0 ++ gs0, s.size ≤ 640 := fun s hs => by
    rcases List.mem_append.1 hs with h | h
    · have := c5 s h; omega
    · have := c6 s h; omega
  have hd : R.drop (rowI z).nums = (ps0 ++ gs0).map quoteS := by
    rw [hR, List.drop_append_of_le_length (by rw [numsW_len]; exact Nat.le_refl _), List.drop_of_length_le (by rw [numsW_len]; exact Nat.le_refl _), List.nil_append]
  refine ⟨rfl, fun j hj => ?_, ?_, ?_⟩
  · by_cases hm : j < (rowI z).nums
    · have hlen : j < R.length := by rw [hR, List.length_append, numsW_len]; omega
      refine h.nums j hlen hm (a0 j) (hi j hj) ?_
      have : R[j]? = some (numS (a0 j)) := by rw [hR, List.getElem?_append_left (by rw [numsW_len]; exact hm), numsW_get hm]
      rw [List.getElem?_eq_getElem hlen] at this
      exact (Option.some.inj this).symm
    · rw [h.zero j (by omega) hj, zeroB_at c2 (by omega) hj]
  · rw [h.pth, hd, ← List.map_take, List.take_append_of_le_length (by omega), List.take_of_length_le (by omega), map_unq_quote fun s hs' => hs s (List.mem_append_left _ hs')]
  · rw [h.arg, hd, ← List.map_drop, List.drop_append_of_le_length (by omega), List.drop_of_length_le (by omega), List.nil_append, map_unq_quote fun s hs' => hs s (List.mem_append_right _ hs')]
/-- No call has the text s. -/
def NoCall (s : ByteArray) : Prop := ∀ z a ps gs, I64A a → callE z a ps gs = 0 → callS z a ps gs ≠ s
theorem no_shape {s x : ByteArray} {R : List ByteArray} (hw : IsW 32 s (x :: R)) (h : numC x < 0 ∨ R.length < (rowI (numC x)).nums + (rowI (numC x)).pths + (rowI (numC x)).least ∨ (rowI (numC x)).nums + (rowI (numC x)).pths + (rowI (numC x)).most < R.length) : NoCall s := by
  intro z a ps gs _ h0 e
  obtain ⟨c1, c2, c3, c4, c5, c6⟩ := callE_zero h0
  have hl := call_words h0 e hw
  injection hl with hx hR
  have hz : numC x = z := by rw [hx, numC_row c1]
  have hlen : R.length = (rowI z).nums + (ps.length + gs.length) := by rw [hR]; simp [numsW_len]
  rw [hz] at h
  omega
theorem no_num {s x : ByteArray} {R : List ByteArray} (hw : IsW 32 s (x :: R)) {j : Nat} (hj : j < R.length) (hm : j < (rowI (numC x)).nums) (hm4 : (rowI (numC x)).nums ≤ 4) (h : ∀ v, Lib.atoiAll R[j].data.toList ≠ .ok v) : NoCall s := by
  intro z a ps gs hi h0 e
  obtain ⟨c1, c2, c3, c4, c5, c6⟩ := callE_zero h0
  have hl := call_words h0 e hw
  injection hl with hx hR
  have hz : numC x = z := by rw [hx, numC_row c1]
  rw [hz] at hm hm4
  have : R[j]? = some (numS (a j)) := by rw [hR, List.getElem?_append_left (by rw [numsW_len]; exact hm), numsW_get hm]
  rw [List.getElem?_eq_getElem hj] at this
  have := Option.some.inj this
  exact h _ (by rw [this, numS_list]; exact atoi_itoa _ (hi j (by omega)))
theorem no_text {s x : ByteArray} {R : List ByteArray} (hw : IsW 32 s (x :: R)) {j : Nat} (hj : j < R.length) (hm : (rowI (numC x)).nums ≤ j) (h : unqE R[j] ≠ 0) : NoCall s := by
  intro z a ps gs hi h0 e
  obtain ⟨c1, c2, c3, c4, c5, c6⟩ := callE_zero h0
  have hl := call_words h0 e hw
  injection hl with hx hR
  have hz : numC x = z := by rw [hx, numC_row c1]
  rw [hz] at hm
  have hq : R[j]? = ((ps ++ gs).map quoteS)[j - (rowI z).nums]? := by rw [hR, List.getElem?_append_right (by rw [numsW_len]; exact hm), numsW_len]
  rw [List.getElem?_eq_getElem hj] at hq
  have hmem := List.mem_of_getElem? hq.symm
  obtain ⟨t, ht, e'⟩ := List.mem_map.1 hmem
  refine h ?_
  rw [← e']
  refine (unq_quote ?_).2
  rcases List.mem_append.1 ht with h | h
  · have := c5 t h; omega
  · have := c6 t h; omega
/-- The call that Format writes as s, with 0; or the zero call with 103. -/
def CIs (s : ByteArray) (z : Int) (a : Nat → Int) (ps gs : List ByteArray) (er : Int) : Prop :=
  (er = 0 ∧ callE z a ps gs = 0 ∧ callS z a ps gs = s ∧ I64A a) ∨ (er = 103 ∧ z = 0 ∧ (∀ j, j < 4 → a j = 0) ∧ ps = [] ∧ gs = [] ∧ NoCall s)
theorem CIs.unique {s : ByteArray} {z z' : Int} {a a' : Nat → Int} {ps gs ps' gs' : List ByteArray} {er er' : Int} (h : CIs s z a ps gs er) (k : CIs s z' a' ps' gs' er') : er = er' ∧ EqC z z' a a' ps ps' gs gs' := by
  rcases h with ⟨rfl, h1, h2, h3⟩ | ⟨rfl, rfl, h3, rfl, rfl, h4⟩
  · rcases k with ⟨rfl, k1, k2, k3⟩ | ⟨rfl, rfl, k3, rfl, rfl, k4⟩
    · exact ⟨rfl, call_inj h1 k1 (h2.trans k2.symm)⟩
    · exact absurd h2 (k4 _ _ _ _ h3 h1)
  · rcases k with ⟨rfl, k1, k2, k3⟩ | ⟨rfl, rfl, k3, rfl, rfl, k4⟩
    · exact absurd k2 (h4 _ _ _ _ k3 k1)
    · exact ⟨rfl, rfl, fun j hj => by rw [h3 j hj, k3 j hj], rfl, rfl⟩
theorem zeroB_same {m : Nat} {a a' : Nat → Int} (h : ∀ j, j < 4 → a j = a' j) : zeroB m a = zeroB m a' := by
  cases hz : zeroB m a'
  · rw [← Bool.not_eq_true]; intro h1
    have : zeroB m a' = true := zeroB_yes fun j h2 h3 => by rw [← h j h3]; exact zeroB_at h1 h2 h3
    rw [hz] at this; cases this
  · exact zeroB_yes fun j h2 h3 => by rw [h j h3]; exact zeroB_at hz h2 h3
theorem call_same {z z' : Int} {a a' : Nat → Int} {ps ps' gs gs' : List ByteArray} (h : EqC z z' a a' ps ps' gs gs') : callE z a ps gs = callE z' a' ps' gs' ∧ callS z a ps gs = callS z' a' ps' gs' := by
  obtain ⟨rfl, h, rfl, rfl⟩ := h
  have he : callE z a ps gs = callE z a' ps gs := by unfold callE; rw [zeroB_same h]
  refine ⟨he, ?_⟩
  unfold callS
  rw [he]
  split
  · rename_i h0
    have hm : (rowI z).nums ≤ 2 := by
      obtain ⟨c1, _⟩ := callE_zero h0
      rw [rowI_toNat c1]; exact (rowC_small _).1
    have : numsW (rowI z).nums a = numsW (rowI z).nums a' := by
      unfold numsW
      refine List.map_congr_left fun j hj => ?_
      have hj' : j < (rowI z).nums := by simpa using hj
      rw [h j (by omega)]
    rw [this]
  · rfl
/-- The last test: what was read is written, and compared. -/
theorem CIs.tested {s x : ByteArray} {R : List ByteArray} {z : Int} {a : Nat → Int} {ps gs : List ByteArray} (h : FromW x R z a ps gs) (hw : IsW 32 s (x :: R)) (hn : ¬ (callE z a ps gs = 0 ∧ callS z a ps gs = s)) : NoCall s := by
  intro z0 a0 ps0 gs0 hi h0 e
  obtain ⟨h1, h2⟩ := call_same (h.complete hw h0 hi e)
  exact hn ⟨h1.trans h0, h2.trans e⟩
theorem CIs.no {s : ByteArray} (h : NoCall s) {a : Nat → Int} (ha : ∀ j, j < 4 → a j = 0) : CIs s 0 a [] [] 103 := .inr ⟨rfl, rfl, ha, rfl, rfl, h⟩
theorem rowI_small (z : Int) : (rowI z).nums ≤ 2 ∧ (rowI z).pths ≤ 2 ∧ (rowI z).least ≤ 1 ∧ (rowI z).most ≤ 4 ∧ (rowI z).name.size ≤ 8 := by
  unfold rowI
  split
  · decide
  · exact rowC_small _
theorem numC_range (x : ByteArray) : -1 ≤ numC x ∧ numC x < 22 := by
  by_cases h : ∃ k, k < 22 ∧ (rowC k).name = x
  · obtain ⟨k, hk, rfl⟩ := h
    have H : ∀ k : Fin 22, numC (rowC k).name = (k.val : Int) := by decide +kernel
    have := H ⟨k, hk⟩
    simp at this
    omega
  · rw [numC_none fun j hj e => h ⟨j, hj, e⟩]; omega
end Go.Proofs.YtokkbboahajbhaaGreatDoor

/- What Unquote reads: the text t with quoteL t = l, if there is one of at most 640 bytes. -/
import Derived.Test.YtnpaoepkpdileaaDoorHex
namespace Go.Proofs.YtnpaoepkpdileaaDoor
def pairc (a b : UInt8) : UInt8 := UInt8.ofNat (16 * (unhexd a).toNat + (unhexd b).toNat)
def unhexL : List UInt8 → Option (List UInt8)
  | [] => some []
  | [_] => none
  | a :: b :: r => if unhexd a < 0 ∨ unhexd b < 0 then none else (unhexL r).map (pairc a b :: ·)
theorem pairc_val (a b : UInt8) (ha : 0 ≤ unhexd a) (hb : 0 ≤ unhexd b) : ((pairc a b).toNat : Int) = 16 * unhexd a + unhexd b := by
  have h1 := unhexd_bounds a
  have h2 := unhexd_bounds b
  unfold pairc
  rw [UInt8.toNat_ofNat']
  omega
theorem hex2_pairc (a b : UInt8) (ha : 0 ≤ unhexd a) (hb : 0 ≤ unhexd b) : hex2 (pairc a b) = [a, b] := by
  have h := pairc_val a b ha hb
  have h1 := unhexd_prop a (by omega)
  have h2 := unhexd_prop b (by omega)
  unfold hex2
  rw [show (pairc a b).toNat / 16 = (unhexd a).toNat by omega, show (pairc a b).toNat % 16 = (unhexd b).toNat by omega, h1.2.2, h2.2.2]
theorem unhexd_hexd' (n : Nat) (h : n < 16) : unhexd (hexd n) = n := unhexd_hexd ⟨n, h⟩
theorem pairc_hex2 (c : UInt8) : pairc (hexd (c.toNat / 16)) (hexd (c.toNat % 16)) = c := by
  have hc := c.toNat_lt
  unfold pairc
  rw [unhexd_hexd' _ (by omega), unhexd_hexd' _ (by omega)]
  apply UInt8.toNat.inj
  rw [UInt8.toNat_ofNat']; omega
theorem unhexL_hexL : ∀ t : List UInt8, unhexL (hexL t) = some t
  | [] => rfl
  | c :: t => by
    have e : hexL (c :: t) = hexd (c.toNat / 16) :: hexd (c.toNat % 16) :: hexL t := rfl
    have hc := c.toNat_lt
    rw [e, unhexL, if_neg (by rw [unhexd_hexd' _ (by omega), unhexd_hexd' _ (by omega)]; omega), unhexL_hexL t, pairc_hex2]; rfl
theorem hexL_unhexL : ∀ (l t : List UInt8), unhexL l = some t → hexL t = l
  | [], t, h => by injection h with h; subst h; rfl
  | [_], t, h => by cases h
  | a :: b :: r, t, h => by
    rw [unhexL] at h
    split at h
    · cases h
    · rename_i hn
      cases hr : unhexL r with
      | none => rw [hr] at h; cases h
      | some u =>
        rw [hr] at h
        injection h with h
        subst h
        have e : hexL (pairc a b :: u) = hex2 (pairc a b) ++ hexL u := rfl
        rw [e, hex2_pairc a b (by omega) (by omega), hexL_unhexL r u hr]; rfl
/-- The text whose quoted form is l. -/
def Quotes (l t : List UInt8) : Prop := quoteL t = l ∧ t.length ≤ 640
theorem safe_nil : safeB [] = true := rfl
theorem Quotes.unique {l t u : List UInt8} (h : Quotes l t) (k : Quotes l u) : t = u := by
  have h1 := h.1; have k1 := k.1
  unfold quoteL at h1 k1
  cases ht : safeB t <;> cases hu : safeB u <;> simp only [ht, hu] at h1 k1
  · rw [← k1] at h1
    simp only [Bool.false_eq_true, if_false, List.cons.injEq, true_and] at h1
    have := unhexL_hexL t
    rw [h1, unhexL_hexL u] at this
    injection this with this; exact this.symm
  · rw [← k1] at h1; simp at h1
  · rw [← k1] at h1; simp at h1
  · rw [← k1] at h1
    simpa using h1
/-- What Unquote returns: the text, if there is one. -/
def unqO (l : List UInt8) : Option (List UInt8) :=
  if 2 ≤ l.length ∧ l.head? = some 34 ∧ l.getLast? = some 34 then
    let t := l.tail.dropLast
    if safeB t ∧ t.length ≤ 640 then some t else none
  else match l with
    | [] => none
    | c :: r => if c = 120 then match unhexL r with
        | some t => if safeB t = false ∧ t.length ≤ 640 then some t else none
        | none => none
      else none
theorem unqO_of {l t : List UInt8} (h : Quotes l t) : unqO l = some t := by
  obtain ⟨h1, h2⟩ := h
  unfold quoteL at h1
  cases ht : safeB t <;> simp only [ht] at h1
  · subst h1
    unfold unqO
    simp [unhexL_hexL, ht, h2]
  · subst h1
    have hl : (34 :: (t ++ [34])).getLast? = some (34 : UInt8) := by
      rw [← List.cons_append, List.getLast?_append]; rfl
    unfold unqO
    simp [ht, h2, hl]
theorem of_unqO {l t : List UInt8} (h : unqO l = some t) : Quotes l t := by
  unfold unqO at h
  split at h
  · rename_i hc
    obtain ⟨hc1, hc2, hc3⟩ := hc
    simp only at h
    split at h
    · rename_i hs
      injection h with h
      subst h
      refine ⟨?_, hs.2⟩
      unfold quoteL
      rw [hs.1]
      match l, hc1, hc2, hc3 with
      | a :: b :: r, _, hc2, hc3 =>
        simp at hc2
        subst hc2
        have hne : b :: r ≠ [] := by simp
        have : (34 :: b :: r).getLast? = (b :: r).getLast? := by simp [List.getLast?_cons_cons]
        rw [this, List.getLast?_eq_some_getLast hne] at hc3
        injection hc3 with hc3
        simp only [if_true, List.tail_cons]
        have hd := List.dropLast_concat_getLast hne
        rw [hc3] at hd
        exact congrArg (List.cons 34) hd
    · cases h
  · match l, h with
    | [], h => cases h
    | c :: r, h =>
      simp only at h
      split at h
      · rename_i hc; subst hc
        cases hr : unhexL r with
        | none => rw [hr] at h; cases h
        | some u =>
          rw [hr] at h
          simp only at h
          split at h
          · rename_i hs
            injection h with h
            subst h
            refine ⟨?_, hs.2⟩
            unfold quoteL
            rw [hs.1, hexL_unhexL r u hr]; rfl
          · cases h
      · cases h
theorem unqO_none {l : List UInt8} (h : ∀ t, ¬ Quotes l t) : unqO l = none := by
  cases hu : unqO l with
  | none => rfl
  | some t => exact absurd (of_unqO hu) (h t)
def unqS (s : ByteArray) : ByteArray := match unqO s.data.toList with | some t => ⟨t.toArray⟩ | none => ⟨#[]⟩
def unqE (s : ByteArray) : Int := match unqO s.data.toList with | some _ => 0 | none => 21
theorem unqS_some {s : ByteArray} {t : List UInt8} (h : unqO s.data.toList = some t) : unqS s = ⟨t.toArray⟩ := by unfold unqS; rw [h]
theorem unqE_some {s : ByteArray} {t : List UInt8} (h : unqO s.data.toList = some t) : unqE s = 0 := by unfold unqE; rw [h]
theorem unqS_none {s : ByteArray} (h : unqO s.data.toList = none) : unqS s = ⟨#[]⟩ := by unfold unqS; rw [h]
theorem unqE_none {s : ByteArray} (h : unqO s.data.toList = none) : unqE s = 21 := by unfold unqE; rw [h]
end Go.Proofs.YtnpaoepkpdileaaDoor

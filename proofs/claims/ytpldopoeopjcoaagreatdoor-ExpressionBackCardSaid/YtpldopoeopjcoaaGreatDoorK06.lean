/- Texts of one proof, laid together. -/
import Derived.Test.YtpldopoeopjcoaaGreatDoorK05
import Derived.Laws.Rows
import Derived.Lib.Strings
import Derived.Lib.AtoiAll
import Derived.Lib.ItoaNum
import Derived.Lib.TrimByte
/- digit of package value, and value of the reference: the value of a hexadecimal digit. -/
namespace Go.Proofs.YtpldopoeopjcoaaGreatDoor
open Go.RowKit
/-- The value of a hexadecimal digit, or -1. -/
def unhexd (c : UInt8) : Int := if 48 ≤ c.toNat ∧ c.toNat ≤ 57 then c.toNat - 48 else if 97 ≤ c.toNat ∧ c.toNat ≤ 102 then c.toNat - 87 else -1
theorem unhexd_hexd : ∀ k : Fin 16, unhexd (hexd k.val) = (k.val : Int) := by decide +kernel
theorem hexd_unhexd : ∀ c : Fin 256, unhexd (UInt8.ofNat c.val) ≠ -1 → 0 ≤ unhexd (UInt8.ofNat c.val) ∧ unhexd (UInt8.ofNat c.val) < 16 ∧ hexd (unhexd (UInt8.ofNat c.val)).toNat = UInt8.ofNat c.val := by decide +kernel
theorem unhexd_at (c : UInt8) (k : Nat) (hk : k < 16) (h : ((hexd k).toNat : Int) = (c.toNat : Int)) : unhexd c = k := by
  have : hexd k = c := UInt8.toNat.inj (by omega)
  rw [← this]; exact unhexd_hexd ⟨k, hk⟩
theorem unhexd_prop (c : UInt8) (h : unhexd c ≠ -1) : 0 ≤ unhexd c ∧ unhexd c < 16 ∧ hexd (unhexd c).toNat = c := by
  have := hexd_unhexd ⟨c.toNat, c.toNat_lt⟩
  simp only [UInt8.ofNat_toNat] at this
  exact this h
theorem unhexd_none (c : UInt8) (h : ∀ k : Nat, k < 16 → ¬ ((hexd k).toNat : Int) = (c.toNat : Int)) : unhexd c = -1 := by
  by_cases hc : unhexd c = -1
  · exact hc
  · obtain ⟨h1, h2, h3⟩ := unhexd_prop c hc
    exact absurd (by rw [h3]) (h (unhexd c).toNat (by omega))
theorem unhexd_bounds (c : UInt8) : -1 ≤ unhexd c ∧ unhexd c < 16 := by
  by_cases hc : unhexd c = -1
  · omega
  · have := unhexd_prop c hc; omega
theorem tab_index (k : Nat) (hk : k < 16) (w : World) : (Instr.index 87 (.agg tabV) (.int .i64 k)).run Tryz.prog w = .ok (bv (hexd k)) w := by
  have : k = 0 ∨ k = 1 ∨ k = 2 ∨ k = 3 ∨ k = 4 ∨ k = 5 ∨ k = 6 ∨ k = 7 ∨ k = 8 ∨ k = 9 ∨ k = 10 ∨ k = 11 ∨ k = 12 ∨ k = 13 ∨ k = 14 ∨ k = 15 := by omega
  rcases this with h | h | h | h | h | h | h | h | h | h | h | h | h | h | h | h <;> (subst h; clear hk; show _ = _; kernel_rfl)
theorem dig_index (k : Nat) (hk : k < 16) (w : World) : (Instr.index 9 (.string ⟨#[48, 49, 50, 51, 52, 53, 54, 55, 56, 57, 97, 98, 99, 100, 101, 102]⟩) (.int .i64 k)).run Tryz.prog w = .ok (bv (hexd k)) w := by
  have : k = 0 ∨ k = 1 ∨ k = 2 ∨ k = 3 ∨ k = 4 ∨ k = 5 ∨ k = 6 ∨ k = 7 ∨ k = 8 ∨ k = 9 ∨ k = 10 ∨ k = 11 ∨ k = 12 ∨ k = 13 ∨ k = 14 ∨ k = 15 := by omega
  rcases this with h | h | h | h | h | h | h | h | h | h | h | h | h | h | h | h <;> (subst h; clear hk; show _ = _; kernel_rfl)
set_option maxHeartbeats 400000 in
theorem vdigit (c : UInt8) (w : World) (ht : Tab w) :
    Calls Tryz.prog 129 #[bv c] w fun e w' => e = .returned (.int .i64 (unhexd c)) ∧ w' = w := by
  obtain ⟨tt, fr, hg⟩ := ht
  go_enter Tryz.func129, Tryz.ntmps129
  go_wp2_with (refine wpList_load_row rfl 87 _ rfl 0 rfl tt _ fr _ hg Tryz.underlying87 rfl (by kernel_rfl) ?_)
  clear hg
  go_loop [6] (fun i => ∃ k : Nat, k ≤ 16 ∧ i = .int .i64 k ∧ Hid (∀ j : Nat, j < k → ¬ ((hexd j).toNat : Int) = (c.toNat : Int))) (fun i => 16 - (intOf i).toNat)
  case atStart => exact ⟨0, by omega, rfl, fun j hj => by omega⟩
  case round =>
    obtain ⟨k, hk, rfl, hno⟩ := hrel
    by_cases hlt : k < 16
    · have hi := tab_index k hlt
      by_cases he : ((hexd k).toNat : Int) = (c.toNat : Int)
      · have H := Lib.hid (unhexd_at c k hlt he)
        have hb : (((hexd k).toNat : Int) == (c.toNat : Int)) = true := by simp [he]
        clear he
        go_wp2
        go_ret
        exact ⟨retI H.out.symm, rfl⟩
      · have H := Lib.hid he
        have hb : (((hexd k).toNat : Int) == (c.toNat : Int)) = false := by simp [he]
        clear he
        go_wp2
        go_round
        case rel => exact ⟨k + 1, by omega, by go_num, fun j hj => by
          by_cases hjk : j = k
          · subst hjk; exact H.out
          · exact hno.out j (by omega)⟩
        case measure => simp [intOf]; omega
    · have H := Lib.hid (unhexd_none c fun j hj => hno.out j (by omega))
      clear hno
      go_wp2
      go_ret
      exact ⟨retI H.out.symm, rfl⟩
end Go.Proofs.YtpldopoeopjcoaaGreatDoor
/- What Unquote reads: the text t with quoteL t = l, if there is one of at most 640 bytes. -/
namespace Go.Proofs.YtpldopoeopjcoaaGreatDoor
def pairc (a b : UInt8) : UInt8 := UInt8.ofNat (16 * (unhexd a).toNat + (unhexd b).toNat)
def unhexL : List UInt8 → Option (List UInt8)
  | [] => some []
  | [_] => none
  | a :: b :: r => if unhexd a < 0 ∨ unhexd b < 0 then none else (unhexL r).map (pairc a b :: ·)
theorem pairc_val (a b : UInt8) (ha : 0 ≤ unhexd a) (hb : 0 ≤ unhexd b) : ((pairc a b).toNat : Int) = 16 * unhexd a + unhexd b := by
  have h1 := unhexd_bounds a
  have h2 := unhexd_bounds b
  unfold pairc
  rw [UInt8.toNat_ofNat']
  omega
theorem hex2_pairc (a b : UInt8) (ha : 0 ≤ unhexd a) (hb : 0 ≤ unhexd b) : hex2 (pairc a b) = [a, b] := by
  have h := pairc_val a b ha hb
  have h1 := unhexd_prop a (by omega)
  have h2 := unhexd_prop b (by omega)
  unfold hex2
  rw [show (pairc a b).toNat / 16 = (unhexd a).toNat by omega, show (pairc a b).toNat % 16 = (unhexd b).toNat by omega, h1.2.2, h2.2.2]
theorem unhexd_hexd' (n : Nat) (h : n < 16) : unhexd (hexd n) = n := unhexd_hexd ⟨n, h⟩
theorem pairc_hex2 (c : UInt8) : pairc (hexd (c.toNat / 16)) (hexd (c.toNat % 16)) = c := by
  have hc := c.toNat_lt
  unfold pairc
  rw [unhexd_hexd' _ (by omega), unhexd_hexd' _ (by omega)]
  apply UInt8.toNat.inj
  rw [UInt8.toNat_ofNat']; omega
theorem unhexL_hexL : ∀ t : List UInt8, unhexL (hexL t) = some t
  | [] => rfl
  | c :: t => by
    have e : hexL (c :: t) = hexd (c.toNat / 16) :: hexd (c.toNat % 16) :: hexL t := rfl
    have hc := c.toNat_lt
    rw [e, unhexL, if_neg (by rw [unhexd_hexd' _ (by omega), unhexd_hexd' _ (by omega)]; omega), unhexL_hexL t, pairc_hex2]; rfl
theorem hexL_unhexL : ∀ (l t : List UInt8), unhexL l = some t → hexL t = l
  | [], t, h => by injection h with h; subst h; rfl
  | [_], t, h => by cases h
  | a :: b :: r, t, h => by
    rw [unhexL] at h
    split at h
    · cases h
    · rename_i hn
      cases hr : unhexL r with
      | none => rw [hr] at h; cases h
      | some u =>
        rw [hr] at h
        injection h with h
        subst h
        have e : hexL (pairc a b :: u) = hex2 (pairc a b) ++ hexL u := rfl
        rw [e, hex2_pairc a b (by omega) (by omega), hexL_unhexL r u hr]; rfl
/-- The text whose quoted form is l. -/
def Quotes (l t : List UInt8) : Prop := quoteL t = l ∧ t.length ≤ 640
theorem safe_nil : safeB [] = true := rfl
theorem Quotes.unique {l t u : List UInt8} (h : Quotes l t) (k : Quotes l u) : t = u := by
  have h1 := h.1; have k1 := k.1
  unfold quoteL at h1 k1
  cases ht : safeB t <;> cases hu : safeB u <;> simp only [ht, hu] at h1 k1
  · rw [← k1] at h1
    simp only [Bool.false_eq_true, if_false, List.cons.injEq, true_and] at h1
    have := unhexL_hexL t
    rw [h1, unhexL_hexL u] at this
    injection this with this; exact this.symm
  · rw [← k1] at h1; simp at h1
  · rw [← k1] at h1; simp at h1
  · rw [← k1] at h1
    simpa using h1
/-- What Unquote returns: the text, if there is one. -/
def unqO (l : List UInt8) : Option (List UInt8) :=
  if 2 ≤ l.length ∧ l.head? = some 34 ∧ l.getLast? = some 34 then
    let t := l.tail.dropLast
    if safeB t ∧ t.length ≤ 640 then some t else none
  else match l with
    | [] => none
    | c :: r => if c = 120 then match unhexL r with
        | some t => if safeB t = false ∧ t.length ≤ 640 then some t else none
        | none => none
      else none
theorem unqO_of {l t : List UInt8} (h : Quotes l t) : unqO l = some t := by
  obtain ⟨h1, h2⟩ := h
  unfold quoteL at h1
  cases ht : safeB t <;> simp only [ht] at h1
  · subst h1
    unfold unqO
    simp [unhexL_hexL, ht, h2]
  · subst h1
    have hl : (34 :: (t ++ [34])).getLast? = some (34 : UInt8) := by
      rw [← List.cons_append, List.getLast?_append]; rfl
    unfold unqO
    simp [ht, h2, hl]
theorem of_unqO {l t : List UInt8} (h : unqO l = some t) : Quotes l t := by
  unfold unqO at h
  split at h
  · rename_i hc
    obtain ⟨hc1, hc2, hc3⟩ := hc
    simp only at h
    split at h
    · rename_i hs
      injection h with h
      subst h
      refine ⟨?_, hs.2⟩
      unfold quoteL
      rw [hs.1]
      match l, hc1, hc2, hc3 with
      | a :: b :: r, _, hc2, hc3 =>
        simp at hc2
        subst hc2
        have hne : b :: r ≠ [] := by simp
        have : (34 :: b :: r).getLast? = (b :: r).getLast? := by simp [List.getLast?_cons_cons]
        rw [this, List.getLast?_eq_some_getLast hne] at hc3
        injection hc3 with hc3
        simp only [if_true, List.tail_cons]
        have hd := List.dropLast_concat_getLast hne
        rw [hc3] at hd
        exact congrArg (List.cons 34) hd
    · cases h
  · match l, h with
    | [], h => cases h
    | c :: r, h =>
      simp only at h
      split at h
      · rename_i hc; subst hc
        cases hr : unhexL r with
        | none => rw [hr] at h; cases h
        | some u =>
          rw [hr] at h
          simp only at h
          split at h
          · rename_i hs
            injection h with h
            subst h
            refine ⟨?_, hs.2⟩
            unfold quoteL
            rw [hs.1, hexL_unhexL r u hr]; rfl
          · cases h
      · cases h
theorem unqO_none {l : List UInt8} (h : ∀ t, ¬ Quotes l t) : unqO l = none := by
  cases hu : unqO l with
  | none => rfl
  | some t => exact absurd (of_unqO hu) (h t)
def unqS (s : ByteArray) : ByteArray := match unqO s.data.toList with | some t => ⟨t.toArray⟩ | none => ⟨#[]⟩
def unqE (s : ByteArray) : Int := match unqO s.data.toList with | some _ => 0 | none => 21
theorem unqS_some {s : ByteArray} {t : List UInt8} (h : unqO s.data.toList = some t) : unqS s = ⟨t.toArray⟩ := by unfold unqS; rw [h]
theorem unqE_some {s : ByteArray} {t : List UInt8} (h : unqO s.data.toList = some t) : unqE s = 0 := by unfold unqE; rw [h]
theorem unqS_none {s : ByteArray} (h : unqO s.data.toList = none) : unqS s = ⟨#[]⟩ := by unfold unqS; rw [h]
theorem unqE_none {s : ByteArray} (h : unqO s.data.toList = none) : unqE s = 21 := by unfold unqE; rw [h]
end Go.Proofs.YtpldopoeopjcoaaGreatDoor
/- What the parser of package expression reads: plain. Expressions of new memory. -/
namespace Go.Proofs.YtpldopoeopjcoaaGreatDoor
open Go.RowKit
def inTx (c : UInt8) : Bool := decide (33 ≤ c.toNat) && decide (c.toNat ≤ 126) && !decide (c.toNat = 34)
def sgL : List ByteArray := [⟨#[33, 61]⟩, ⟨#[60, 61]⟩, ⟨#[62, 61]⟩, ⟨#[61]⟩, ⟨#[60]⟩, ⟨#[62]⟩, ⟨#[126]⟩, ⟨#[40]⟩, ⟨#[41]⟩]
def signAt : List ByteArray → List UInt8 → Option ByteArray
  | [], _ => none
  | x :: r, l => if Lib.hasPrefix l x.data.toList = true then some x else signAt r l
/-- The token at the beginning of a text, and how long it is. -/
def cutL : List UInt8 → Option (Tk × Nat)
  | [] => none
  | a :: r =>
    if nma a = true then some (⟨1, ⟨((a :: r).take (runL nmd (a :: r))).toArray⟩, 0⟩, runL nmd (a :: r))
    else if (dig38 a || decide (a.toNat = 45)) = true then
      match Lib.atoiAll ((a :: r).take (1 + runL dig38 r)) with
      | .ok m => if Lib.itoa m = (a :: r).take (1 + runL dig38 r) then some (⟨2, ⟨#[]⟩, m⟩, 1 + runL dig38 r) else none
      | _ => none
    else if a.toNat = 34 then
      (if (a :: r)[1 + runL inTx r]? = some 34 then some (⟨3, ⟨(r.take (runL inTx r)).toArray⟩, 0⟩, 1 + runL inTx r + 1) else none)
    else (signAt sgL (a :: r)).map fun x => (⟨4, x, 0⟩, x.size)
def scanL : Nat → List UInt8 → Option (List Tk)
  | _, [] => some []
  | 0, _ :: _ => none
  | n + 1, a :: r =>
    match cutL (a :: r) with
    | none => none
    | some (t, k) => (scanL n (Lib.trimLeftB ((a :: r).drop k) 32)).map (t :: ·)
/-- The tokens of a text. -/
def scanE (l : List UInt8) : Option (List Tk) := scanL (Lib.trimLeftB l 32).length (Lib.trimLeftB l 32)
def wordE : List Tk → Option (ByteArray × List Tk)
  | [] => none
  | t :: r => if t.kd = 1 ∧ keyB t.tx = false then some (t.tx, r) else none
def sgNL : List (List UInt8) := [[61], [33, 61], [60], [60, 61], [62], [62, 61], [126]]
/-- The comparison of a sign, or 0. -/
def cmpL (s : List UInt8) : Int :=
  if [61] = s then 1 else if [33, 61] = s then 2 else if [60] = s then 3 else if [60, 61] = s then 4 else if [62] = s then 5 else if [62, 61] = s then 6 else if [126] = s then 7 else 0
def valE (nm : ByteArray) (cm : Int) : List Tk → Option (Ex × List Tk)
  | [] => none
  | t :: r =>
    if t.kd = 2 then some (.mk 4 cm 1 t.nu nm ⟨#[]⟩ [], r)
    else if t.kd = 3 then some (.mk 4 cm 2 0 nm t.tx [], r)
    else if t.kd = 1 then (match unqO t.tx.data.toList with | some u => some (.mk 4 cm 2 0 nm ⟨u.toArray⟩ [], r) | none => none)
    else none
def cmpE (nm : ByteArray) : List Tk → Option (Ex × List Tk)
  | [] => none
  | t :: r => if t.kd = 4 ∧ cmpL t.tx.toList ≠ 0 then valE nm (cmpL t.tx.toList) r else none
def testE (ts : List Tk) : Option (Ex × List Tk) :=
  match wordE ts with
  | none => none
  | some (nm, r) => cmpE nm r
def hasE (ts : List Tk) : Option (Ex × List Tk) :=
  match wordE ts with
  | none => none
  | some (nm, r) => some (.mk 5 0 0 0 nm ⟨#[]⟩ [], r)
def notE (f : Option (Ex × List Tk)) : Option (Ex × List Tk) :=
  match f with
  | none => none
  | some (x, r) => some (.mk 3 0 0 0 ⟨#[]⟩ ⟨#[]⟩ [x], r)
def parE (f : Option (Ex × List Tk)) : Option (Ex × List Tk) :=
  match f with
  | none => none
  | some (x, r) => if hitB r 4 ⟨#[41]⟩ = true then some (x, r.tail) else none
def moreE (f : List Tk → Option (Ex × List Tk)) (wd : ByteArray) : Nat → List Tk → Option (List Ex × List Tk)
  | 0, ts => some ([], ts)
  | k + 1, ts =>
    if hitB ts 1 wd = true then
      match f ts.tail with
      | none => none
      | some (x, r) =>
        match moreE f wd k r with
        | none => none
        | some (l, r') => some (x :: l, r')
    else some ([], ts)
def joinE (op : Int) (l : List Ex) (r : List Tk) : Option (Ex × List Tk) :=
  match l with
  | [x] => some (x, r)
  | l => some (.mk op 0 0 0 ⟨#[]⟩ ⟨#[]⟩ l, r)
def listE (f : List Tk → Option (Ex × List Tk)) (op : Int) (wd : ByteArray) (ts : List Tk) : Option (Ex × List Tk) :=
  match f ts with
  | none => none
  | some (x, r) =>
    match moreE f wd r.length r with
    | none => none
    | some (l, r') => joinE op (x :: l) r'
def sAnd : ByteArray := ⟨#[97, 110, 100]⟩
def sOr : ByteArray := ⟨#[111, 114]⟩
def sNot : ByteArray := ⟨#[110, 111, 116]⟩
def sHas : ByteArray := ⟨#[104, 97, 115]⟩
def facE : Nat → List Tk → Option (Ex × List Tk)
  | 0, _ => none
  | n + 1, ts =>
    if hitB ts 1 sNot = true then notE (facE n ts.tail)
    else if hitB ts 1 sHas = true then hasE ts.tail
    else if hitB ts 4 ⟨#[40]⟩ = true then parE (listE (listE (facE n) 1 sAnd) 2 sOr ts.tail)
    else testE ts
def andE (n : Nat) : List Tk → Option (Ex × List Tk) := listE (facE n) 1 sAnd
def orE (n : Nat) : List Tk → Option (Ex × List Tk) := listE (andE n) 2 sOr
theorem facE_succ (n : Nat) (ts : List Tk) : facE (n + 1) ts = if hitB ts 1 sNot = true then notE (facE n ts.tail)
    else if hitB ts 1 sHas = true then hasE ts.tail
    else if hitB ts 4 ⟨#[40]⟩ = true then parE (orE n ts.tail)
    else testE ts := rfl
def wholeE : Option (Ex × List Tk) → Option Ex
  | some (x, []) => some x
  | _ => none
/-- The expression that a text of at most 512 bytes means, but for Check. -/
def parseE (l : List UInt8) : Option Ex :=
  match scanE l with
  | none => none
  | some ts => wholeE (orE ts.length ts)
theorem begun_parse : parseE [97, 48, 61, 49, 32, 97, 110, 100, 32, 110, 111, 116, 32, 40, 104, 97, 115, 32, 98, 32, 111, 114, 32, 99, 126, 34, 120, 34, 41] = some (.mk 1 0 0 0 ⟨#[]⟩ ⟨#[]⟩ [.mk 4 1 1 1 ⟨#[97, 48]⟩ ⟨#[]⟩ [], .mk 3 0 0 0 ⟨#[]⟩ ⟨#[]⟩ [.mk 2 0 0 0 ⟨#[]⟩ ⟨#[]⟩ [.mk 5 0 0 0 ⟨#[98]⟩ ⟨#[]⟩ [], .mk 4 7 2 0 ⟨#[99]⟩ ⟨#[120]⟩ []]]]) := by kernel_rfl
/-- How many tokens are left. -/
def Less (o : Option (Ex × List Tk)) (n : Nat) : Prop := ∀ x r, o = some (x, r) → r.length < n
theorem hit_pos {ts : List Tk} {kd : Int} {tx : ByteArray} (h : hitB ts kd tx = true) : ts.tail.length + 1 = ts.length := by
  cases ts with
  | nil => cases h
  | cons a r => rfl
theorem wordE_cons (t : Tk) (r : List Tk) : wordE (t :: r) = if t.kd = 1 ∧ keyB t.tx = false then some (t.tx, r) else none := rfl
theorem valE_cons (nm : ByteArray) (cm : Int) (t : Tk) (r : List Tk) : valE nm cm (t :: r) = if t.kd = 2 then some (.mk 4 cm 1 t.nu nm ⟨#[]⟩ [], r)
    else if t.kd = 3 then some (.mk 4 cm 2 0 nm t.tx [], r)
    else if t.kd = 1 then (match unqO t.tx.data.toList with | some u => some (.mk 4 cm 2 0 nm ⟨u.toArray⟩ [], r) | none => none)
    else none := rfl
theorem cmpE_cons (nm : ByteArray) (t : Tk) (r : List Tk) : cmpE nm (t :: r) = if t.kd = 4 ∧ cmpL t.tx.toList ≠ 0 then valE nm (cmpL t.tx.toList) r else none := rfl
theorem word_less {ts : List Tk} {s : ByteArray} {r : List Tk} (h : wordE ts = some (s, r)) : r.length < ts.length := by
  cases ts with
  | nil => cases h
  | cons t r' =>
    rw [wordE_cons] at h
    by_cases hc : t.kd = 1 ∧ keyB t.tx = false
    · rw [if_pos hc] at h; injection h with h; injection h with h1 h2; rw [← h2]; exact Nat.lt_succ_self _
    · rw [if_neg hc] at h; cases h
theorem val_less (nm : ByteArray) (cm : Int) (ts : List Tk) : Less (valE nm cm ts) ts.length := by
  intro x r h
  cases ts with
  | nil => cases h
  | cons t r' =>
    rw [valE_cons] at h
    suffices hr : r = r' by rw [hr]; exact Nat.lt_succ_self _
    by_cases h2 : t.kd = 2
    · rw [if_pos h2] at h; injection h with h; injection h with h1 h2; exact h2.symm
    · rw [if_neg h2] at h
      by_cases h3 : t.kd = 3
      · rw [if_pos h3] at h; injection h with h; injection h with h1 h2; exact h2.symm
      · rw [if_neg h3] at h
        by_cases h1 : t.kd = 1
        · rw [if_pos h1] at h
          cases hu : unqO t.tx.data.toList with
          | none => rw [hu] at h; cases h
          | some u => rw [hu] at h; injection h with h; injection h with h1 h2; exact h2.symm
        · rw [if_neg h1] at h; cases h
theorem cmp_less (nm : ByteArray) (ts : List Tk) : Less (cmpE nm ts) ts.length := by
  intro x r h
  cases ts with
  | nil => cases h
  | cons t r' =>
    rw [cmpE_cons] at h
    by_cases hc : t.kd = 4 ∧ cmpL t.tx.toList ≠ 0
    · rw [if_pos hc] at h
      exact Nat.lt_succ_of_lt (val_less _ _ _ _ _ h)
    · rw [if_neg hc] at h; cases h
theorem test_less (ts : List Tk) : Less (testE ts) ts.length := by
  intro x r h
  unfold testE at h
  split at h
  · cases h
  · rename_i nm r' e
    have := word_less e
    have := cmp_less _ _ _ _ h
    omega
theorem has_less (ts : List Tk) : Less (hasE ts) ts.length := by
  intro x r h
  unfold hasE at h
  split at h
  · cases h
  · rename_i nm r' e
    have := word_less e
    cases h
    omega
theorem more_less {f : List Tk → Option (Ex × List Tk)} (hf : ∀ ts, Less (f ts) ts.length) (wd : ByteArray) : ∀ (k : Nat) (ts : List Tk) (l : List Ex) (r : List Tk), moreE f wd k ts = some (l, r) → r.length ≤ ts.length
  | 0, ts, l, r, h => by cases h; exact Nat.le_refl _
  | k + 1, ts, l, r, h => by
    unfold moreE at h
    split at h
    · rename_i hh
      have := hit_pos hh
      split at h
      · cases h
      · rename_i x r1 e
        have := hf _ _ _ e
        split at h
        · cases h
        · rename_i l1 r2 e2
          have := more_less hf wd k r1 l1 r2 e2
          cases h
          omega
    · cases h; exact Nat.le_refl _
theorem join_rest {op : Int} {l : List Ex} {r r' : List Tk} {x : Ex} (h : joinE op l r = some (x, r')) : r' = r := by
  unfold joinE at h
  split at h <;> (cases h; rfl)
theorem list_less {f : List Tk → Option (Ex × List Tk)} (hf : ∀ ts, Less (f ts) ts.length) (op : Int) (wd : ByteArray) (ts : List Tk) : Less (listE f op wd ts) ts.length := by
  intro x r h
  unfold listE at h
  split at h
  · cases h
  · rename_i x1 r1 e
    have := hf _ _ _ e
    split at h
    · cases h
    · rename_i l r2 e2
      have := more_less hf wd _ _ _ _ e2
      have := join_rest h
      subst this
      omega
theorem fac_less : ∀ (n : Nat) (ts : List Tk), Less (facE n ts) ts.length
  | 0, ts => fun _ _ h => by cases h
  | n + 1, ts => fun x r h => by
    rw [facE_succ] at h
    split at h
    · rename_i hh
      have := hit_pos hh
      unfold notE at h
      split at h
      · cases h
      · rename_i x1 r1 e
        have := fac_less n _ _ _ e
        cases h
        omega
    · split at h
      · rename_i hh
        have := hit_pos hh
        have := has_less _ _ _ h
        omega
      · split at h
        · rename_i hh
          have := hit_pos hh
          unfold parE at h
          split at h
          · cases h
          · rename_i x1 r1 e
            have := list_less (list_less (fac_less n) 1 sAnd) 2 sOr _ _ _ e
            split at h
            · rename_i h2
              have := hit_pos h2
              cases h
              omega
            · cases h
        · exact test_less _ _ _ h
theorem and_less (n : Nat) (ts : List Tk) : Less (andE n ts) ts.length := list_less (fac_less n) 1 sAnd ts
theorem or_less (n : Nat) (ts : List Tk) : Less (orE n ts) ts.length := list_less (and_less n) 2 sOr ts
theorem moreE_succ (f : List Tk → Option (Ex × List Tk)) (wd : ByteArray) (k : Nat) (ts : List Tk) : moreE f wd (k + 1) ts = if hitB ts 1 wd = true then (match f ts.tail with | none => none | some (x, r) => match moreE f wd k r with | none => none | some (l, r') => some (x :: l, r')) else some ([], ts) := rfl
theorem moreE_no {f : List Tk → Option (Ex × List Tk)} {wd : ByteArray} {ts : List Tk} (h : hitB ts 1 wd = false) : ∀ k, moreE f wd k ts = some ([], ts)
  | 0 => rfl
  | k + 1 => by rw [moreE_succ, if_neg (by rw [h]; exact Bool.false_ne_true)]
/-- Enough fuel is enough. -/
theorem more_fuel {f : List Tk → Option (Ex × List Tk)} (hf : ∀ ts, Less (f ts) ts.length) (wd : ByteArray) : ∀ (k : Nat) (ts : List Tk) (j : Nat), ts.length ≤ k → ts.length ≤ j → moreE f wd k ts = moreE f wd j ts
  | 0, ts, j, h, _ => by
    have : hitB ts 1 wd = false := by rw [List.eq_nil_of_length_eq_zero (Nat.le_zero.1 h)]; rfl
    rw [moreE_no this, moreE_no this]
  | k + 1, ts, j, h, hj => by
    cases hh : hitB ts 1 wd
    · rw [moreE_no hh, moreE_no hh]
    · have h1 := hit_pos hh
      obtain ⟨m, rfl⟩ : ∃ m, j = m + 1 := ⟨j - 1, by omega⟩
      rw [moreE_succ, moreE_succ, if_pos hh, if_pos hh]
      cases e : f ts.tail with
      | none => rfl
      | some p =>
        obtain ⟨x, r⟩ := p
        have := hf _ _ _ e
        simp only
        rw [more_fuel hf wd k r m (by omega) (by omega)]
theorem more_step {f : List Tk → Option (Ex × List Tk)} (hf : ∀ ts, Less (f ts) ts.length) (wd : ByteArray) (ts : List Tk) : moreE f wd ts.length ts = if hitB ts 1 wd = true then (match f ts.tail with | none => none | some (x, r) => match moreE f wd r.length r with | none => none | some (l, r') => some (x :: l, r')) else some ([], ts) := by
  cases hh : hitB ts 1 wd
  · rw [moreE_no hh, if_neg Bool.false_ne_true]
  · have h1 := hit_pos hh
    obtain ⟨m, hm⟩ : ∃ m, ts.length = m + 1 := ⟨_, h1.symm⟩
    rw [hm, moreE_succ, if_pos hh, if_pos rfl]
    cases e : f ts.tail with
    | none => rfl
    | some p =>
      obtain ⟨x, r⟩ := p
      have := hf _ _ _ e
      simp only
      rw [more_fuel hf wd m r r.length (by omega) (Nat.le_refl _)]
/-- Expressions in memory, in blocks of S. -/
def AtS (w : World) (S : Nat → Prop) (A : Option Addr) (ms : List Xe) : Prop := ∀ k (hk : k < ms.length), ∃ ad : Addr, A = some ad ∧ S ad.block ∧ ∀ j, j < 7 → w.cell? ((ad.add (k * 7)).add j) = (EX.C (ms[k]'hk))[j]?
/-- The cells m hold the expression x; its parts lie in blocks of S. -/
inductive ExA (w : World) (S : Nat → Prop) : Ex → Xe → Prop
  | mk (op cm kd nu : Int) (nm tx : ByteArray) (ls : List Ex) (A : Option Addr) (c : Nat) (ms : List Xe) (hl : ms.length = ls.length) (hn : ls.length ≤ 1000000) (hs : nm.size ≤ maxLen ∧ tx.size ≤ maxLen) (hat : AtS w S A ms)
    (ih : ∀ k (h1 : k < ls.length) (h2 : k < ms.length), ExA w S (ls[k]) (ms[k])) : ExA w S (.mk op cm kd nu nm tx ls) ⟨op, cm, kd, nu, nm, tx, A, ls.length, c⟩
theorem AtS.keep {w w' : World} {S S' : Nat → Prop} {A : Option Addr} {ms : List Xe} (h : AtS w S A ms) (hk : ∀ i, S i → w'.heap[i]? = w.heap[i]?) (hS : ∀ i, S i → S' i) : AtS w' S' A ms := fun k hkl => by
  obtain ⟨ad, e, hb, hc⟩ := h k hkl
  exact ⟨ad, e, hS _ hb, fun j hj => (World.cell?_of_block (by rw [addE_block, addE_block]; exact hk _ hb)).trans (hc j hj)⟩
theorem ExA.keep {w w' : World} {S S' : Nat → Prop} {x : Ex} {m : Xe} (h : ExA w S x m) (hk : ∀ i, S i → w'.heap[i]? = w.heap[i]?) (hS : ∀ i, S i → S' i) : ExA w' S' x m := by
  induction h with
  | mk op cm kd nu nm tx ls A c ms hl hn hs hat ih ihh => exact ExA.mk op cm kd nu nm tx ls A c ms hl hn hs (hat.keep hk hS) ihh
theorem ExA.v {w : World} {S : Nat → Prop} {B : Nat} {x : Ex} {m : Xe} (h : ExA w S x m) (hS : ∀ i, S i → i < B) : ExV w B x m := by
  induction h with
  | mk op cm kd nu nm tx ls A c ms hl hn hs hat ih ihh =>
    refine ExV.mk op cm kd nu nm tx ls A c ms hl hn hs (fun k hkl => ?_) ihh
    obtain ⟨ad, e, hb, hc⟩ := hat k hkl
    exact ⟨ad, e, hS _ hb, hc⟩
theorem ExA.leaf (w : World) (S : Nat → Prop) (op cm kd nu : Int) (nm tx : ByteArray) (c : Nat) (hs : nm.size ≤ maxLen ∧ tx.size ≤ maxLen) : ExA w S (.mk op cm kd nu nm tx []) ⟨op, cm, kd, nu, nm, tx, none, 0, c⟩ :=
  ExA.mk op cm kd nu nm tx [] none c [] rfl (by simp) hs (fun k hk => by simp at hk) (fun k h => by simp at h)
/-- The blocks that are new. -/
def Frs (w w' : World) (i : Nat) : Prop := w.heap.size ≤ i ∧ i < w'.heap.size
/-- What the parser panics with. -/
def feV : Value := .iface 106 (.agg #[])
/-- The tokens' texts are no longer than the text. -/
def TOk (ts : List Tk) : Prop := ts.length ≤ 1000000 ∧ ∀ t ∈ ts, t.tx.size ≤ 1000000
theorem TOk.tail {t : Tk} {r : List Tk} (h : TOk (t :: r)) : TOk r := ⟨by have := h.1; simp at this; omega, fun x hx => h.2 x (List.mem_cons_of_mem _ hx)⟩
/-- A parser in block g that has the tokens ts left; the table of digits lies below. -/
def TkO (w : World) (g : Nat) (ts : List Tk) : Prop := TkS w g ts ∧ TOk ts ∧ Tab w ∧ 0 < g
theorem TkO.toks {w : World} {g : Nat} {ts : List Tk} (h : TkO w g ts) : TOk ts := h.2.1
theorem TkO.tab {w : World} {g : Nat} {ts : List Tk} (h : TkO w g ts) : Tab w := h.2.2.1
theorem Tab.far {w w' : World} {g : Nat} {row : Option Nat} (h : Tab w) (hd : 0 < g) (hg : w.grownBy w' row) (hne : ∀ k, row = some k → g ≤ k) : Tab w' := by
  have hlt := Glob.lt h
  obtain ⟨tt, fr, e⟩ := h
  exact ⟨tt, fr, (hg.block _ hlt (fun e => by have := hne _ e.symm; omega)).trans e⟩
theorem TkO.step {w w' : World} {g : Nat} {ts ts' : List Tk} (h : TkO w g ts) (hs : TkS w' g ts') (ht : TOk ts') (hg : w.grownBy w' (some g)) : TkO w' g ts' :=
  ⟨hs, ht, h.2.2.1.far h.2.2.2 hg (fun k e => by injection e with e; omega), h.2.2.2⟩
theorem TOk.left {ts : List Tk} (h : TOk ts) (kd : Int) (tx : ByteArray) : TOk (leftT ts kd tx) := by
  unfold leftT
  split
  · cases ts with
    | nil => exact h
    | cons t r => exact h.tail
  · exact h
theorem TkS.far {w w' : World} {g : Nat} {ts : List Tk} (h : TkS w g ts) {row : Option Nat} (hg : w.grownBy w' row) (hne : ∀ k, row = some k → g < k) : TkS w' g ts := by
  obtain ⟨A, c, h1, h2, h3, h4⟩ := h
  refine ⟨A, c, Blk.grown h1 hg (fun e => by have := hne _ e; omega), h2, h3, fun k hk => ?_⟩
  obtain ⟨ad, e, hb, hc⟩ := h4 k hk
  exact ⟨ad, e, hb, fun j hj => (World.cell?_of_block (by rw [addE_block, addE_block]; exact hg.block _ (by have := h1.lt; omega) (fun e => by have := hne _ e.symm; omega))).trans (hc j hj)⟩
theorem TkO.far {w w' : World} {g : Nat} {ts : List Tk} (h : TkO w g ts) {row : Option Nat} (hg : w.grownBy w' row) (hne : ∀ k, row = some k → g < k) : TkO w' g ts := ⟨h.1.far hg hne, h.2.1, h.2.2.1.far h.2.2.2 hg (fun k e => Nat.le_of_lt (hne k e)), h.2.2.2⟩
theorem TkO.below {w w' : World} {g : Nat} {ts : List Tk} (h : TkO w g ts) (hb : Below w.heap.size w w') : TkO w' g ts := ⟨h.1.below hb, h.2.1, h.2.2.1.below hb (Nat.le_refl _), h.2.2.2⟩
theorem TkO.alloc {w : World} {g : Nat} {ts : List Tk} (h : TkO w g ts) (o : Obj) : TkO (w.alloc o) g ts := h.below ((Below.refl _ _).alloc (Nat.le_refl _) o)
theorem TkO.lt {w : World} {g : Nat} {ts : List Tk} (h : TkO w g ts) : g < w.heap.size := h.1.lt
def XPost (o : Option (Ex × List Tk)) (w : World) (g : Nat) (e : Ending) (w' : World) : Prop :=
  match o with
  | some (x, r) => ∃ m, e = .returned (.agg (xC m)) ∧ ExA w' (Frs w w') x m ∧ TkO w' g r ∧ w.grownBy w' (some g)
  | none => e = .panicked [{ v := feV, recovered := false }] ∧ w.grownBy w' (some g)
theorem xpost_none {w w' : World} {g : Nat} {e : Ending} (h1 : e = .panicked [{ v := feV, recovered := false }]) (h2 : w.grownBy w' (some g)) : XPost none w g e w' := ⟨h1, h2⟩
theorem only_trans {a b c : World} {r : Option Nat} (h : a.grownBy b r) (k : b.grownBy c r) : a.grownBy c r :=
  ⟨k.os.trans h.os, k.tape.trans h.tape, k.output.trans h.output, Nat.le_trans h.size k.size, fun i hi hne => (k.block i (Nat.lt_of_lt_of_le hi h.size) hne).trans (h.block i hi hne)⟩
theorem only_far {a b c : World} {r s : Option Nat} (h : a.grownBy b r) (k : b.grownBy c s) (hs : ∀ x, s = some x → a.heap.size ≤ x) : a.grownBy c r :=
  ⟨k.os.trans h.os, k.tape.trans h.tape, k.output.trans h.output, Nat.le_trans h.size k.size, fun i hi hne => (k.block i (Nat.lt_of_lt_of_le hi h.size) (fun e => by have := hs _ e.symm; omega)).trans (h.block i hi hne)⟩
end Go.Proofs.YtpldopoeopjcoaaGreatDoor
/- What scan of package expression reads: plain. -/
namespace Go.Proofs.YtpldopoeopjcoaaGreatDoor
open Go.RowKit
theorem trim_le (l : List UInt8) (c : UInt8) : (Lib.trimLeftB l c).length ≤ l.length := (List.dropWhile_suffix _).length_le
theorem sign_mem {x : ByteArray} : ∀ {ss : List ByteArray} {l : List UInt8}, signAt ss l = some x → x ∈ ss ∧ Lib.hasPrefix l x.data.toList = true
  | [], _, h => by cases h
  | y :: r, l, h => by
    unfold signAt at h
    by_cases hp : Lib.hasPrefix l y.data.toList = true
    · rw [if_pos hp] at h; injection h with h; subst h; exact ⟨List.mem_cons_self .., hp⟩
    · rw [if_neg hp] at h; exact ⟨List.mem_cons_of_mem _ (sign_mem h).1, (sign_mem h).2⟩
theorem sgL_size : ∀ x ∈ sgL, 1 ≤ x.size ∧ x.size ≤ 2 := by decide +kernel
theorem cutL_eq (a : UInt8) (r : List UInt8) : cutL (a :: r) =
    if nma a = true then some (⟨1, ⟨((a :: r).take (runL nmd (a :: r))).toArray⟩, 0⟩, runL nmd (a :: r))
    else if (dig38 a || decide (a.toNat = 45)) = true then
      match Lib.atoiAll ((a :: r).take (1 + runL dig38 r)) with
      | .ok m => if Lib.itoa m = (a :: r).take (1 + runL dig38 r) then some (⟨2, ⟨#[]⟩, m⟩, 1 + runL dig38 r) else none
      | _ => none
    else if a.toNat = 34 then
      (if (a :: r)[1 + runL inTx r]? = some 34 then some (⟨3, ⟨(r.take (runL inTx r)).toArray⟩, 0⟩, 1 + runL inTx r + 1) else none)
    else (signAt sgL (a :: r)).map fun x => (⟨4, x, 0⟩, x.size) := rfl
/-- The token that cut reads: not empty, no longer than the text. -/
theorem cut_ok {l : List UInt8} {t : Tk} {k : Nat} (h : cutL l = some (t, k)) : 1 ≤ k ∧ k ≤ l.length ∧ t.tx.size ≤ l.length := by
  cases l with
  | nil => cases h
  | cons a r =>
    rw [cutL_eq] at h
    split at h
    · rename_i ha
      injection h with h
      injection h with h1 h2
      have hle := runL_le nmd (a :: r)
      have h1k : 1 ≤ runL nmd (a :: r) := by
        unfold runL
        rw [if_pos (nma_nmd ha)]
        omega
      subst h2
      refine ⟨h1k, hle, ?_⟩
      rw [← h1]
      show (List.toArray _).size ≤ _
      simp only [List.size_toArray, List.length_take]
      omega
    · split at h
      · split at h
        · split at h
          · injection h with h
            injection h with h1 h2
            have := runL_le dig38 r
            subst h2
            refine ⟨by omega, by simp only [List.length_cons]; omega, ?_⟩
            rw [← h1]
            show 0 ≤ _
            omega
          · cases h
        · cases h
      · split at h
        · split at h
          · rename_i hq
            injection h with h
            injection h with h1 h2
            have := runL_le inTx r
            have hlt := (List.getElem?_eq_some_iff.1 hq).1
            subst h2
            refine ⟨by omega, by omega, ?_⟩
            rw [← h1]
            show (List.toArray _).size ≤ _
            simp only [List.size_toArray, List.length_take, List.length_cons]
            omega
          · cases h
        · cases hs : signAt sgL (a :: r) with
          | none => rw [hs] at h; cases h
          | some x =>
            rw [hs] at h
            injection h with h
            injection h with h1 h2
            obtain ⟨hm, hp⟩ := sign_mem hs
            have hz := sgL_size x hm
            unfold Lib.hasPrefix at hp
            have hl := (List.isPrefixOf_iff_prefix.1 hp).length_le
            have : x.data.toList.length = x.size := Array.length_toList
            subst h2
            refine ⟨hz.1, by omega, ?_⟩
            rw [← h1]
            show x.size ≤ _
            omega
theorem scanL_nil (n : Nat) : scanL n [] = some [] := by cases n <;> rfl
theorem scanL_cons (n : Nat) (a : UInt8) (r : List UInt8) : scanL (n + 1) (a :: r) = match cutL (a :: r) with
    | none => none
    | some (t, k) => (scanL n (Lib.trimLeftB ((a :: r).drop k) 32)).map (t :: ·) := rfl
theorem scan_fuel : ∀ (n m : Nat) (l : List UInt8), l.length ≤ n → l.length ≤ m → scanL n l = scanL m l
  | n, m, [], _, _ => by rw [scanL_nil, scanL_nil]
  | 0, m, a :: r, h, _ => by simp at h
  | n + 1, 0, a :: r, _, h => by simp at h
  | n + 1, m + 1, a :: r, h1, h2 => by
    rw [scanL_cons, scanL_cons]
    cases hc : cutL (a :: r) with
    | none => rfl
    | some p =>
      obtain ⟨t, k⟩ := p
      have := cut_ok hc
      have h3 := trim_le ((a :: r).drop k) 32
      rw [List.length_drop] at h3
      simp only
      rw [scan_fuel n m _ (by simp only [List.length_cons] at *; omega) (by simp only [List.length_cons] at *; omega)]
def scanR (l : List UInt8) : Option (List Tk) := scanL l.length l
theorem scanR_nil : scanR [] = some [] := rfl
theorem scanR_none {l : List UInt8} (h : l ≠ []) (hc : cutL l = none) : scanR l = none := by
  cases l with
  | nil => exact absurd rfl h
  | cons a r => unfold scanR; rw [List.length_cons, scanL_cons, hc]
theorem scanR_some {l : List UInt8} {t : Tk} {k : Nat} (hc : cutL l = some (t, k)) : scanR l = (scanR (Lib.trimLeftB (l.drop k) 32)).map (t :: ·) := by
  cases l with
  | nil => cases hc
  | cons a r =>
    have h1 := cut_ok hc
    have h3 := trim_le ((a :: r).drop k) 32
    rw [List.length_drop] at h3
    unfold scanR
    rw [List.length_cons, scanL_cons, hc]
    simp only
    rw [scan_fuel r.length _ _ (by simp only [List.length_cons] at *; omega) (Nat.le_refl _)]
theorem scanE_eq (l : List UInt8) : scanE l = scanR (Lib.trimLeftB l 32) := rfl
end Go.Proofs.YtpldopoeopjcoaaGreatDoor
/- inText of package expression; run of it. -/
namespace Go.Proofs.YtpldopoeopjcoaaGreatDoor
open Go.RowKit
theorem vinText (c : UInt8) (w : World) : Calls Tryz.prog 81 #[.int .u8 (c.toNat : Int)] w fun e w' => e = .returned (.bool (inTx c)) ∧ w = w' := by
  have H := Lib.hid (show inTx c = (decide (33 ≤ c.toNat) && decide (c.toNat ≤ 126) && !decide (c.toNat = 34)) from rfl)
  by_cases h1 : 33 ≤ c.toNat
  · by_cases h2 : c.toNat ≤ 126
    · by_cases h3 : c.toNat = 34
      · have H := Lib.hid (show inTx c = false by rw [H.out]; simp [h3])
        have c1 : (33 : Int) ≤ (c.toNat : Int) := by omega
        have c2 : (c.toNat : Int) ≤ 126 := by omega
        have c3 : ((c.toNat : Int) != 34) = false := by rw [h3]; rfl
        clear h1 h2 h3
        go_enter Tryz.func81, Tryz.ntmps81
        go_wp2
        go_ret
        exact ⟨retB H.out.symm, rfl⟩
      · have H := Lib.hid (show inTx c = true by rw [H.out]; simp [h1, h2, h3])
        have c1 : (33 : Int) ≤ (c.toNat : Int) := by omega
        have c2 : (c.toNat : Int) ≤ 126 := by omega
        have c3 : ((c.toNat : Int) != 34) = true := by simp; omega
        clear h1 h2 h3
        go_enter Tryz.func81, Tryz.ntmps81
        go_wp2
        go_ret
        exact ⟨retB H.out.symm, rfl⟩
    · have H := Lib.hid (show inTx c = false by rw [H.out]; simp [h2])
      have c1 : (33 : Int) ≤ (c.toNat : Int) := by omega
      have c2 : ¬ (c.toNat : Int) ≤ 126 := by omega
      clear h1 h2
      go_enter Tryz.func81, Tryz.ntmps81
      go_wp2
      go_ret
      exact ⟨retB H.out.symm, rfl⟩
  · have H := Lib.hid (show inTx c = false by rw [H.out]; simp [h1])
    have c1 : ¬ (33 : Int) ≤ (c.toNat : Int) := by omega
    clear h1
    go_enter Tryz.func81, Tryz.ntmps81
    go_wp2
    go_ret
    exact ⟨retB H.out.symm, rfl⟩
set_option maxRecDepth 100000 in
set_option maxHeartbeats 4000000 in
theorem vrun_inText (s : ByteArray) (hs : s.size ≤ 1000000) (w : World) :
    Calls Tryz.prog 79 #[.string s, .func (.func 81) #[] #[]] w fun e w' => e = .returned (.int .i64 (runL inTx s.data.toList)) ∧ w = w' := by
  go_enter Tryz.func79, Tryz.ntmps79
  go_wp2_with fail
  go_loopw [5] (fun i wr => ∃ k : Nat, k ≤ s.size ∧ i = .int .i64 (k : Int) ∧ Hid (runL inTx s.data.toList = k + runL inTx (s.data.toList.drop k)) ∧ wr = w) (fun i _ => s.size - (intOf i).toNat)
  case atStart => exact ⟨0, Nat.zero_le _, rfl, Lib.hid (by simp), rfl⟩
  case round =>
    obtain ⟨k, hk, rfl, hr, rfl⟩ := hrel
    by_cases hlt : k < s.size
    · have hlt1 : (k : Int) < (s.size : Int) := by omega
      have HD : s.data.toList.drop k = s[k] :: s.data.toList.drop (k + 1) := List.drop_eq_getElem_cons (by simpa using hlt)
      have HC := Lib.hid (vinText s[k] wr)
      have HE := Lib.hid (show runL inTx (s.data.toList.drop k) = if inTx s[k] = true then runL inTx (s.data.toList.drop (k + 1)) + 1 else 0 by rw [HD]; rfl)
      clear HD
      go_wp2_with fail
      refine HC.out.mono ?_
      rintro e w1 ⟨rfl, rfl⟩
      cases hb : inTx s[k]
      · have HR := Lib.hid (show runL inTx s.data.toList = k by rw [hr.out, HE.out, hb]; simp)
        go_wp2_with fail
        go_ret
        exact ⟨by rw [HR.out]; rfl, rfl⟩
      · have HR := Lib.hid (show runL inTx s.data.toList = (k + 1) + runL inTx (s.data.toList.drop (k + 1)) by rw [hr.out, HE.out, hb]; simp; omega)
        go_wp2_with fail
        go_roundw
        case rel => exact ⟨k + 1, by omega, by go_num, HR, trivial⟩
        case measure => simp [intOf]; omega
    · have hlt1 : ¬ (k : Int) < (s.size : Int) := by omega
      have HR := Lib.hid (show runL inTx s.data.toList = k by rw [hr.out, List.drop_eq_nil_of_le (by simp; omega)]; rfl)
      go_wp2_with fail
      go_ret
      exact ⟨by rw [HR.out]; rfl, rfl⟩
end Go.Proofs.YtpldopoeopjcoaaGreatDoor

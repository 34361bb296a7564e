/- Texts of one proof, laid together. -/
import Derived.Test.YtollifnnpihfdaaGreatDoorC09
import Derived.Test.YtollifnnpihfdaaGreatDoorC11
/- Rules and their texts: plain functions. -/
namespace Go.Proofs.YtollifnnpihfdaaGreatDoor
structure Tst where
  fd : Int
  op : Int
  nu : Int
  tx : ByteArray
  ot : Int
structure Rul where
  li : Int
  ac : Int
  ca : Nat
  ts : List Tst
  wa : Int
  pa : ByteArray
  pe : Int
  ke : ByteArray
def Tst.chk (t : Tst) (l : Int) : Int := checkF t.fd t.op t.nu t.tx t.ot l
def Tst.txt (t : Tst) : ByteArray := testS t.fd t.op t.nu t.tx t.ot
def Tst.any (t : Tst) : Int := anyE t.fd t.op t.nu t.tx t.ot
/-- The first error of tests. -/
def firstE : List Tst → Int → Int
  | [], _ => 0
  | t :: ts, l => if t.chk l = 0 then firstE ts l else t.chk l
def callsB (li : Int) : Bool := decide (li = 2 ∨ li = 3)
def watchB (wa pe li : Int) (pa : ByteArray) : Bool :=
  if wa = 0 then decide (pa.size = 0 ∧ pe = 0)
  else if wa = 1 ∨ wa = 2 then decide (li = 3) && cleanB pa && decide (pa.size ≤ 128 ∧ 1 ≤ pe ∧ pe ≤ 15)
  else false
/-- The first error of a rule. -/
def checkR (r : Rul) : Int :=
  if r.li < 1 ∨ 5 < r.li then 130
  else if r.ac ≠ 1 ∧ r.ac ≠ 2 then 131
  else if callsB r.li = true ∧ (r.ca = 0 ∨ 4294967296 ≤ r.ca) then 132
  else if callsB r.li = false ∧ r.ca ≠ 0 then 132
  else if 8 < r.ts.length then 133
  else if firstE r.ts r.li ≠ 0 then firstE r.ts r.li
  else if watchB r.wa r.pe r.li r.pa = false then 134
  else if 31 < r.ke.size then 135
  else 0
def actL : List ByteArray := [⟨#[]⟩, ⟨#[97, 108, 119, 97, 121, 115]⟩, ⟨#[110, 101, 118, 101, 114]⟩]
def listL : List ByteArray := [⟨#[]⟩, ⟨#[116, 97, 115, 107]⟩, ⟨#[101, 110, 116, 114, 121]⟩, ⟨#[101, 120, 105, 116]⟩, ⟨#[117, 115, 101, 114]⟩, ⟨#[101, 120, 99, 108, 117, 100, 101]⟩]
def actN (k : Nat) : ByteArray := actL.getD k ⟨#[]⟩
def listN (k : Nat) : ByteArray := listL.getD k ⟨#[]⟩
/-- The letters of a set of permissions. -/
def permS (n : Int) : ByteArray := ⟨((if n.toNat.testBit 2 then [(114 : UInt8)] else []) ++ (if n.toNat.testBit 1 then [119] else []) ++ (if n.toNat.testBit 0 then [120] else []) ++ (if n.toNat.testBit 3 then [97] else [])).toArray⟩
def fA : ByteArray := ⟨#[45, 97]⟩
def fS : ByteArray := ⟨#[45, 83]⟩
def fF : ByteArray := ⟨#[45, 70]⟩
def fC : ByteArray := ⟨#[45, 67]⟩
def fK : ByteArray := ⟨#[45, 107]⟩
def fW : ByteArray := ⟨#[45, 119]⟩
def fT : ByteArray := ⟨#[45, 116]⟩
def fP : ByteArray := ⟨#[45, 112]⟩
def pathW : ByteArray := ⟨#[112, 97, 116, 104, 61]⟩
def dirW : ByteArray := ⟨#[100, 105, 114, 61]⟩
def permW : ByteArray := ⟨#[112, 101, 114, 109, 61]⟩
/-- What stands behind -F or -C. -/
inductive Part where
  | tst (t : Tst)
  | fil (p : ByteArray)
  | dir (p : ByteArray)
  | prm (n : Int)
def Part.flag : Part → ByteArray
  | .tst t => if t.ot ≠ 0 then fC else fF
  | _ => fF
def Part.txt : Part → ByteArray
  | .tst t => t.txt
  | .fil p => pathW ++ quoteS p
  | .dir p => dirW ++ quoteS p
  | .prm n => permW ++ permS n
def Part.ok : Part → Prop
  | .tst t => t.any = 0 ∧ I64 t.nu
  | .fil p => p.size ≤ 128
  | .dir p => p.size ≤ 128
  | .prm n => 1 ≤ n ∧ n ≤ 15
def Rul.put (r : Rul) : Part → Rul
  | .tst t => { r with ts := r.ts ++ [t] }
  | .fil p => { r with wa := 1, pa := p }
  | .dir p => { r with wa := 2, pa := p }
  | .prm n => { r with pe := n }
def watchP (r : Rul) : List Part := if r.wa = 1 then [.fil r.pa, .prm r.pe] else if r.wa = 2 then [.dir r.pa, .prm r.pe] else []
def partsR (r : Rul) : List Part := r.ts.map .tst ++ watchP r
def partW (ps : List Part) : List ByteArray := ps.flatMap fun p => [p.flag, p.txt]
def keyW (k : ByteArray) : List ByteArray := if k.size = 0 then [] else [fK, quoteS k]
def callW (r : Rul) : List ByteArray := if callsB r.li = true then [fS, maskS r.ca] else []
def headW (r : Rul) : ByteArray := actN r.ac.toNat ++ ⟨#[44]⟩ ++ listN r.li.toNat
/-- The words of a rule's text behind the first. -/
def restR (r : Rul) : List ByteArray := headW r :: (callW r ++ (partW (partsR r) ++ keyW r.ke))
def textR (r : Rul) : ByteArray := catW fA (restR r)
def fmtR (r : Rul) : ByteArray := if checkR r = 0 then textR r else ⟨#[]⟩
def allCalls : Nat := 4294967295
def flagW (wa : Int) : ByteArray := if wa = 2 then fT else fW
def restW (r : Rul) : List ByteArray := quoteS r.pa :: fP :: permS r.pe :: keyW r.ke
def shortT (r : Rul) : ByteArray := catW (flagW r.wa) (restW r)
def shortB (r : Rul) : Bool := decide (checkR r = 0) && decide (r.wa ≠ 0 ∧ r.li = 3 ∧ r.ac = 1 ∧ r.ts.length = 0 ∧ r.ca = allCalls)
def shortS (r : Rul) : ByteArray := if shortB r = true then shortT r else ⟨#[]⟩
def zeroR : Rul := ⟨0, 0, 0, [], 0, ⟨#[]⟩, 0, ⟨#[]⟩⟩
/-- A rule that Check accepts. -/
structure GoodR (r : Rul) : Prop where
  ok : checkR r = 0
  nums : ∀ t ∈ r.ts, I64 t.nu
def baseR (r : Rul) : Rul := { zeroR with li := r.li, ac := r.ac, ca := r.ca }
structure ChkR (r : Rul) : Prop where
  li : 1 ≤ r.li ∧ r.li ≤ 5
  ac : r.ac = 1 ∨ r.ac = 2
  ca : (callsB r.li = true ∧ r.ca ≠ 0 ∧ r.ca < 4294967296) ∨ (callsB r.li = false ∧ r.ca = 0)
  len : r.ts.length ≤ 8
  tst : firstE r.ts r.li = 0
  wat : watchB r.wa r.pe r.li r.pa = true
  key : r.ke.size ≤ 31
theorem checkR_zero {r : Rul} (h : checkR r = 0) : ChkR r := by
  unfold checkR at h
  split at h
  · cases h
  split at h
  · cases h
  split at h
  · cases h
  split at h
  · cases h
  split at h
  · cases h
  split at h
  · rename_i h6; exact absurd h h6
  split at h
  · cases h
  split at h
  · cases h
  rename_i h1 h2 h3 h4 h5 h6 h7 h8
  refine ⟨by omega, by omega, ?_, by omega, by omega, by simpa using h7, by omega⟩
  cases hc : callsB r.li
  · right; refine ⟨rfl, ?_⟩
    have := h4; simp [hc] at this; exact this
  · left; refine ⟨rfl, ?_⟩
    have := h3; simp [hc] at this; omega
theorem ChkR.zero {r : Rul} (h : ChkR r) : checkR r = 0 := by
  obtain ⟨h1, h2, h3, h4, h5, h6, h7⟩ := h
  unfold checkR
  rw [if_neg (by omega), if_neg (by omega), if_neg (by rintro ⟨a, b⟩; rcases h3 with h | h; omega; rw [h.1] at a; cases a), if_neg (by rintro ⟨a, b⟩; rcases h3 with h | h; rw [h.1] at a; cases a; exact b h.2), if_neg (by omega), if_neg (by simpa using h5), if_neg (by rw [h6]; decide), if_neg (by omega)]
theorem firstE_all {l : Int} : ∀ {ts : List Tst}, firstE ts l = 0 → ∀ t ∈ ts, t.chk l = 0
  | [], _, t, ht => by cases ht
  | t :: ts, h, u, hu => by
    unfold firstE at h
    split at h
    · rename_i h0
      rcases List.mem_cons.1 hu with rfl | hu
      · exact h0
      · exact firstE_all h u hu
    · rename_i h0; exact absurd h h0
theorem firstE_at {l : Int} : ∀ {ts : List Tst} {k : Nat} (hk : k < ts.length), firstE (ts.take k) l = 0 → ts[k].chk l ≠ 0 → firstE ts l = ts[k].chk l
  | [], k, hk, _, _ => by simp at hk
  | t :: ts, 0, _, _, h => by unfold firstE; exact if_neg h
  | t :: ts, k + 1, hk, h0, h => by
    rw [List.take_succ_cons] at h0
    have ht := firstE_all h0 t List.mem_cons_self
    have h1 : firstE (ts.take k) l = 0 := by unfold firstE at h0; rw [if_pos ht] at h0; exact h0
    have := firstE_at (ts := ts) (k := k) (by simp at hk; omega) h1 h
    unfold firstE
    rw [if_pos ht, this]; rfl
theorem firstE_snoc {l : Int} : ∀ {ts : List Tst} {t : Tst}, firstE ts l = 0 → t.chk l = 0 → firstE (ts ++ [t]) l = 0
  | [], t, _, h => by simp [firstE, h]
  | u :: ts, t, h0, h => by
    have hu := firstE_all h0 u List.mem_cons_self
    have h1 : firstE ts l = 0 := by unfold firstE at h0; rw [if_pos hu] at h0; exact h0
    show firstE (u :: (ts ++ [t])) l = 0
    unfold firstE; rw [if_pos hu]; exact firstE_snoc h1 h
theorem firstE_next {l : Int} {ts : List Tst} {k : Nat} (hk : k < ts.length) (h0 : firstE (ts.take k) l = 0) (h : ts[k].chk l = 0) : firstE (ts.take (k + 1)) l = 0 := by
  rw [List.take_succ_eq_append_getElem hk]; exact firstE_snoc h0 h
/-- A test that a list permits is one for which Format has a text. -/
theorem any_of_chk {t : Tst} {l : Int} (h : t.chk l = 0) : t.any = 0 := by
  obtain ⟨h1, h2, h3, h4, h5, h6, h7⟩ := checkF_zero h
  have r1 := allow_range h1
  have mono : ∀ f : Int, allowB l f = true → l ≠ 5 → allowB 3 f = true := fun f hf hl => by
    unfold allowB procB at hf
    have e : allowB 3 f = decide (1 ≤ f ∧ f ≤ 21) := by unfold allowB; simp
    rw [e]
    split at hf
    · simp at hf ⊢; omega
    · split at hf
      · simp at hf ⊢; omega
      · split at hf
        · simp at hf ⊢; omega
        · cases hf
  have same : ∀ m : Int, allowB m t.fd = true → (t.ot = 0 ∨ allowB m t.ot = true) → checkF t.fd t.op t.nu t.tx t.ot m = 0 := fun m hm ho => by
    unfold checkF
    rw [if_neg (by rw [hm]; decide), if_neg (by
      rintro ⟨a, b⟩
      rcases h2 with h | ⟨_, h8, h9⟩
      · exact a h
      · rcases ho with ho | ho
        · exact a ho
        · rw [ho, h8, h9] at b; simp at b), if_neg (by omega), if_neg (by
      rintro ⟨a, b⟩
      rcases h4 with h | ⟨h8, h9⟩
      · omega
      · rw [h8] at b; simp at b; exact b h9), if_neg (by
      rintro ⟨a, b⟩
      rcases h5 with h | ⟨h8, h9⟩
      · exact a h
      · omega), if_neg (by
      rintro ⟨a, b⟩
      rcases h6 with h | ⟨h8, h9, h10⟩
      · rw [h] at a; cases a
      · omega), if_neg (by
      rintro ⟨a, b⟩
      rcases h7 with h | h
      · rw [h] at a; cases a
      · exact b h)]
  unfold Tst.any anyE
  by_cases hl : l = 5
  · subst hl
    by_cases h3 : checkF t.fd t.op t.nu t.tx t.ot 3 = 0
    · rw [if_neg (by rw [h3]; simp), h3]
    · rw [if_pos ⟨h3, h⟩]
  · have h3 := same 3 (mono _ h1 hl) (by rcases h2 with h | h; exact .inl h; exact .inr (mono _ h.1 hl))
    rw [if_neg (by rw [h3]; simp), h3]
theorem watch_ok {r : Rul} (h : ChkR r) : (r.wa = 0 ∧ r.pa = ⟨#[]⟩ ∧ r.pe = 0) ∨ ((r.wa = 1 ∨ r.wa = 2) ∧ r.li = 3 ∧ cleanB r.pa = true ∧ r.pa.size ≤ 128 ∧ 1 ≤ r.pe ∧ r.pe ≤ 15) := by
  have hw := h.wat
  unfold watchB at hw
  split at hw
  · rename_i h0
    simp only [decide_eq_true_eq] at hw
    exact .inl ⟨h0, bytes_ext (by
      have : r.pa.data.toList.length = 0 := by rw [Array.length_toList]; exact hw.1
      rw [List.eq_nil_of_length_eq_zero this]), hw.2⟩
  · split at hw
    · rename_i h1
      simp only [Bool.and_eq_true, decide_eq_true_eq] at hw
      exact .inr ⟨h1, hw.1.1, hw.1.2, hw.2.1, hw.2.2.1, hw.2.2.2⟩
    · cases hw
theorem parts_ok {r : Rul} (h : GoodR r) : ∀ p ∈ partsR r, p.ok := fun p hp => by
  have hc := checkR_zero h.ok
  rcases List.mem_append.1 hp with hp | hp
  · obtain ⟨t, ht, rfl⟩ := List.mem_map.1 hp
    exact ⟨any_of_chk (firstE_all hc.tst t ht), h.nums t ht⟩
  · unfold watchP at hp
    rcases watch_ok hc with ⟨h0, _⟩ | ⟨h1, _, _, h4, h5, h6⟩
    · rw [if_neg (by omega), if_neg (by omega)] at hp; cases hp
    · split at hp
      · simp at hp; rcases hp with rfl | rfl
        · exact h4
        · exact ⟨h5, h6⟩
      · split at hp
        · simp at hp; rcases hp with rfl | rfl
          · exact h4
          · exact ⟨h5, h6⟩
        · cases hp
theorem put_tests (r : Rul) : ∀ ts : List Tst, (ts.map Part.tst).foldl Rul.put r = { r with ts := r.ts ++ ts }
  | [] => by simp
  | t :: ts => by
    rw [List.map_cons, List.foldl_cons, put_tests]
    simp [Rul.put]
/-- The rule that the parts of a rule's text say. -/
theorem put_parts {r : Rul} (h : checkR r = 0) : (partsR r).foldl Rul.put (baseR r) = { r with ke := ⟨#[]⟩ } := by
  have hc := checkR_zero h
  unfold partsR
  rw [List.foldl_append, put_tests]
  unfold watchP baseR zeroR
  rcases watch_ok hc with ⟨h0, h1, h2⟩ | ⟨h1, _⟩
  · rw [if_neg (by omega), if_neg (by omega)]
    cases r; simp at *; simp [h0, h1, h2]
  · rcases h1 with h1 | h1
    · rw [if_pos h1]
      cases r; simp at *; simp [h1, Rul.put]
    · rw [if_neg (by omega), if_pos h1]
      cases r; simp at *; simp [h1, Rul.put]
end Go.Proofs.YtollifnnpihfdaaGreatDoor
/- The words of a rule's text hold no space, and they say the rule: plain facts. -/
namespace Go.Proofs.YtollifnnpihfdaaGreatDoor
/-- A byte that is no space and below 127. -/
def visR (c : UInt8) : Bool := decide (33 ≤ c.toNat) && decide (c.toNat ≤ 126)
theorem visR_okc {c : UInt8} (h : okc c = true) : visR c = true := by unfold okc at h; unfold visR; simp at *; omega
theorem visR_dig {c : UInt8} (h : digB c = true) : visR c = true := by unfold digB at h; unfold visR; simp at *; omega
theorem visR_hexd (n : Nat) (h : n < 16) : visR (hexd n) = true := by
  unfold hexd visR
  split <;> (rw [UInt8.toNat_ofNat']; simp; omega)
theorem visR_hexL (l : List UInt8) : (hexL l).all visR = true := by
  induction l with
  | nil => rfl
  | cons c l ih =>
    have e : hexL (c :: l) = hex2 c ++ hexL l := rfl
    rw [e, List.all_append, ih]
    have hc := c.toNat_lt
    simp [hex2, visR_hexd (c.toNat / 16) (by omega), visR_hexd (c.toNat % 16) (by omega)]
theorem visR_quoteL (l : List UInt8) : (quoteL l).all visR = true := by
  unfold quoteL
  split
  · rename_i h
    rw [List.all_cons, List.all_append]
    have : l.all visR = true := List.all_eq_true.2 fun c hc => visR_okc (List.all_eq_true.1 h c hc)
    rw [this]; rfl
  · rw [List.all_cons, visR_hexL]; rfl
theorem visR_quote (s : ByteArray) : (quoteS s).data.toList.all visR = true := by
  unfold quoteS
  split
  · rfl
  · exact visR_quoteL _
theorem visR_decs (u : Nat) : (Lib.decDigits u).all visR = true := List.all_eq_true.2 fun c hc => visR_dig (List.all_eq_true.1 (dec_props u).2.1 c hc)
theorem visR_itoa (n : Int) : (Lib.itoa n).all visR = true := by
  unfold Lib.itoa
  split
  · rw [List.all_cons, visR_decs]; rfl
  · exact visR_decs _
theorem visR_numS (n : Int) : (numS n).data.toList.all visR = true := by
  have e : (numS n).data.toList = Lib.itoa n := by unfold numS; simp
  rw [e]; exact visR_itoa n
theorem visR_field (k : Nat) : (fieldN k).data.toList.all visR = true := by
  by_cases h : k < 23
  · have H : ∀ k : Fin 23, (fieldN k).data.toList.all visR = true := by decide +kernel
    exact H ⟨k, h⟩
  · have : fieldN k = ⟨#[]⟩ := by unfold fieldN; rw [List.getD_eq_getElem?_getD, List.getElem?_eq_none (by show fieldL.length ≤ k; have : fieldL.length = 23 := rfl; omega)]; rfl
    rw [this]; rfl
theorem visR_op (k : Nat) : (opN k).data.toList.all visR = true := by
  by_cases h : k < 9
  · have H : ∀ k : Fin 9, (opN k).data.toList.all visR = true := by decide +kernel
    exact H ⟨k, h⟩
  · have : opN k = ⟨#[]⟩ := by unfold opN; rw [List.getD_eq_getElem?_getD, List.getElem?_eq_none (by show opL.length ≤ k; have : opL.length = 9 := rfl; omega)]; rfl
    rw [this]; rfl
theorem visR_val (fd nu : Int) (tx : ByteArray) (ot : Int) : (valS fd nu tx ot).data.toList.all visR = true := by
  unfold valS
  split
  · exact visR_field _
  · split
    · exact visR_quote _
    · exact visR_numS _
theorem visR_tst (t : Tst) : t.txt.data.toList.all visR = true := by
  unfold Tst.txt testS
  split
  · rw [ByteArray.data_append, ByteArray.data_append, Array.toList_append, Array.toList_append, List.all_append, List.all_append, visR_field, visR_op, visR_val]; rfl
  · rfl
theorem visR_perm (n : Int) : (permS n).data.toList.all visR = true := by
  unfold permS
  generalize n.toNat.testBit 0 = a
  generalize n.toNat.testBit 1 = b
  generalize n.toNat.testBit 2 = c
  generalize n.toNat.testBit 3 = d
  revert a b c d
  decide +kernel
theorem visR_join (xs : List (List UInt8)) (h : ∀ x ∈ xs, x.all visR = true) : (Lib.join xs [44]).all visR = true := by
  cases xs with
  | nil => rfl
  | cons x xs =>
    rw [Lib.join_cons, List.all_append, h x List.mem_cons_self]
    have hx : ∀ y ∈ xs, y.all visR = true := fun y hy => h y (List.mem_cons_of_mem _ hy)
    clear h
    induction xs with
    | nil => rfl
    | cons y ys ih =>
      have e : Lib.joinTail [44] (y :: ys) = 44 :: (y ++ Lib.joinTail [44] ys) := by simp [Lib.joinTail]
      rw [e, List.all_cons, List.all_append, hx y List.mem_cons_self]
      have := ih (fun z hz => hx z (List.mem_cons_of_mem _ hz))
      simp only [Bool.true_and] at this ⊢
      rw [this]; rfl
theorem visR_mask (m : Nat) : (maskS m).data.toList.all visR = true := by
  unfold maskS
  split
  · rfl
  split
  · rfl
  · refine visR_join _ fun x hx => ?_
    obtain ⟨p, _, rfl⟩ := List.mem_map.1 hx
    unfold rtext
    split
    · rw [List.all_append, List.all_cons, visR_decs, visR_decs]; rfl
    · exact visR_decs _
theorem visR_head (r : Rul) : (headW r).data.toList.all visR = true := by
  have a : ∀ k, (actN k).data.toList.all visR = true := fun k => by
    by_cases h : k < 3
    · have H : ∀ k : Fin 3, (actN k).data.toList.all visR = true := by decide +kernel
      exact H ⟨k, h⟩
    · have : actN k = ⟨#[]⟩ := by unfold actN; rw [List.getD_eq_getElem?_getD, List.getElem?_eq_none (by show actL.length ≤ k; have : actL.length = 3 := rfl; omega)]; rfl
      rw [this]; rfl
  have b : ∀ k, (listN k).data.toList.all visR = true := fun k => by
    by_cases h : k < 6
    · have H : ∀ k : Fin 6, (listN k).data.toList.all visR = true := by decide +kernel
      exact H ⟨k, h⟩
    · have : listN k = ⟨#[]⟩ := by unfold listN; rw [List.getD_eq_getElem?_getD, List.getElem?_eq_none (by show listL.length ≤ k; have : listL.length = 6 := rfl; omega)]; rfl
      rw [this]; rfl
  unfold headW
  rw [ByteArray.data_append, ByteArray.data_append, Array.toList_append, Array.toList_append, List.all_append, List.all_append, a, b]; rfl
theorem noc_of {s : ByteArray} (h : s.data.toList.all visR = true) : NoC 32 s := fun c hc e => by
  have := List.all_eq_true.1 h c hc
  rw [e] at this; exact absurd this (by decide)
theorem visR_part (p : Part) : p.flag.data.toList.all visR = true ∧ p.txt.data.toList.all visR = true := by
  cases p with
  | tst t => exact ⟨by unfold Part.flag; simp only []; split <;> rfl, visR_tst t⟩
  | fil p => exact ⟨rfl, by unfold Part.txt; simp only []; rw [ByteArray.data_append, Array.toList_append, List.all_append, visR_quote]; rfl⟩
  | dir p => exact ⟨rfl, by unfold Part.txt; simp only []; rw [ByteArray.data_append, Array.toList_append, List.all_append, visR_quote]; rfl⟩
  | prm n => exact ⟨rfl, by unfold Part.txt; simp only []; rw [ByteArray.data_append, Array.toList_append, List.all_append, visR_perm]; rfl⟩
theorem noc_key (k : ByteArray) : ∀ x ∈ keyW k, NoC 32 x := fun x hx => by
  unfold keyW at hx
  split at hx
  · cases hx
  · simp at hx; rcases hx with rfl | rfl
    · exact noc_of rfl
    · exact noc_of (visR_quote _)
theorem noc_parts (ps : List Part) : ∀ x ∈ partW ps, NoC 32 x := fun x hx => by
  obtain ⟨p, _, hx⟩ := List.mem_flatMap.1 hx
  simp at hx
  rcases hx with rfl | rfl
  · exact noc_of (visR_part p).1
  · exact noc_of (visR_part p).2
theorem isW_text (r : Rul) : IsW 32 (textR r) (fA :: restR r) := by
  refine ⟨by simp, ?_, by unfold textR; rw [catW_list]; rfl⟩
  intro x hx
  rcases List.mem_cons.1 hx with rfl | hx
  · exact noc_of rfl
  rcases List.mem_cons.1 hx with rfl | hx
  · exact noc_of (visR_head r)
  rcases List.mem_append.1 hx with hx | hx
  · unfold callW at hx
    split at hx
    · simp at hx; rcases hx with rfl | rfl
      · exact noc_of rfl
      · exact noc_of (visR_mask _)
    · cases hx
  rcases List.mem_append.1 hx with hx | hx
  · exact noc_parts _ x hx
  · exact noc_key _ x hx
theorem isW_short (r : Rul) : IsW 32 (shortT r) (flagW r.wa :: restW r) := by
  refine ⟨by simp, ?_, by unfold shortT; rw [catW_list]; rfl⟩
  intro x hx
  rcases List.mem_cons.1 hx with rfl | hx
  · unfold flagW; split <;> exact noc_of rfl
  rcases List.mem_cons.1 hx with rfl | hx
  · exact noc_of (visR_quote _)
  rcases List.mem_cons.1 hx with rfl | hx
  · exact noc_of rfl
  rcases List.mem_cons.1 hx with rfl | hx
  · exact noc_of (visR_perm _)
  · exact noc_key _ x hx
/-- The text of a test begins with none of the words of a watch. -/
theorem tst_prefix {t : Tst} (h : t.any = 0) {p : List UInt8} {q : List UInt8} (hp : p = q ++ [61]) (hq : q.all (fun c => !opc c) = true) (hn : ∀ k : Fin 23, (fieldN k).data.toList ≠ q) : Lib.hasPrefix t.txt.data.toList p = false := by
  rw [← Bool.not_eq_true]
  intro hpre
  obtain ⟨rest, hr⟩ := List.isPrefixOf_iff_prefix.1 hpre
  obtain ⟨l, hl⟩ := anyE_zero h
  obtain ⟨h1, h2, h3, _⟩ := checkF_zero hl
  have r1 := allow_range h1
  have hop : ∃ c r, (opN t.op.toNat).data.toList ++ (valS t.fd t.nu t.tx t.ot).data.toList = c :: r ∧ opc c = true := by
    have H : ∀ k : Fin 8, ∃ c r, (opN (k.val + 1)).data.toList = c :: r ∧ opc c = true := fun k => by
      have h1 := op_ne k
      have h2 := op_all ⟨k.val + 1, by omega⟩
      cases he : (opN (k.val + 1)).data.toList with
      | nil => exact absurd he h1
      | cons c r =>
        have h2' : (opN (k.val + 1)).data.toList.all opc = true := h2
        rw [he, List.all_cons, Bool.and_eq_true] at h2'
        exact ⟨c, r, rfl, h2'.1⟩
    obtain ⟨c, r, e, hc⟩ := H ⟨t.op.toNat - 1, by omega⟩
    have e1 : t.op.toNat - 1 + 1 = t.op.toNat := by omega
    simp only [e1] at e
    exact ⟨c, r ++ (valS t.fd t.nu t.tx t.ot).data.toList, by rw [e]; rfl, hc⟩
  have e : (fieldN t.fd.toNat).data.toList ++ ((opN t.op.toNat).data.toList ++ (valS t.fd t.nu t.tx t.ot).data.toList) = q ++ (61 :: rest) := by
    have : t.txt.data.toList = (fieldN t.fd.toNat).data.toList ++ ((opN t.op.toNat).data.toList ++ (valS t.fd t.nu t.tx t.ot).data.toList) := by
      unfold Tst.txt testS
      rw [if_pos (show anyE t.fd t.op t.nu t.tx t.ot = 0 from h)]; simp
    rw [← this, ← hr, hp]; simp
  have := (span_unique (p := opc) (field_noop ⟨t.fd.toNat, by omega⟩) hq hop ⟨61, rest, rfl, by decide⟩ e).1
  exact hn ⟨t.fd.toNat, by omega⟩ this
theorem tst_path {t : Tst} (h : t.any = 0) : Lib.hasPrefix t.txt.data.toList pathW.data.toList = false := tst_prefix h (q := [112, 97, 116, 104]) rfl (by decide) (by decide +kernel)
theorem tst_dir {t : Tst} (h : t.any = 0) : Lib.hasPrefix t.txt.data.toList dirW.data.toList = false := tst_prefix h (q := [100, 105, 114]) rfl (by decide) (by decide +kernel)
theorem tst_perm {t : Tst} (h : t.any = 0) : Lib.hasPrefix t.txt.data.toList permW.data.toList = false := tst_prefix h (q := [112, 101, 114, 109]) rfl (by decide) (by decide +kernel)
theorem pre_app (a b : ByteArray) : Lib.hasPrefix (a ++ b).data.toList a.data.toList = true := by
  rw [ByteArray.data_append, Array.toList_append]; exact List.isPrefixOf_iff_prefix.2 ⟨_, rfl⟩
theorem app_cancel {a b c : ByteArray} (h : a ++ b = a ++ c) : b = c := by
  have := congrArg (fun s : ByteArray => s.data.toList) h
  simp only [ByteArray.data_append, Array.toList_append] at this
  exact bytes_ext (List.append_cancel_left this)
theorem permS_inj {m n : Int} (hm : 1 ≤ m ∧ m ≤ 15) (hn : 1 ≤ n ∧ n ≤ 15) (h : permS m = permS n) : m = n := by
  have H : ∀ i j : Fin 16, (permS (i.val : Int)).data.toList = (permS (j.val : Int)).data.toList → i = j := by decide +kernel
  have em : ((m.toNat : Nat) : Int) = m := by omega
  have en : ((n.toNat : Nat) : Int) = n := by omega
  have := H ⟨m.toNat, by omega⟩ ⟨n.toNat, by omega⟩ (by show (permS (m.toNat : Int)).data.toList = (permS (n.toNat : Int)).data.toList; rw [em, en, h])
  have := congrArg Fin.val this
  simp at this
  omega
theorem first_diff {a b : List UInt8} {s t : ByteArray} {k : Nat} (h : a[k]? ≠ b[k]?) (ha : k < a.length) (hb : k < b.length) (e : (⟨a.toArray⟩ : ByteArray) ++ s = (⟨b.toArray⟩ : ByteArray) ++ t) : False := by
  have := congrArg (fun s : ByteArray => s.data.toList[k]?) e
  simp only [ByteArray.data_append, Array.toList_append] at this
  rw [List.getElem?_append_left (by simpa using ha), List.getElem?_append_left (by simpa using hb)] at this
  exact h this
theorem part_inj {p q : Part} (hp : p.ok) (hq : q.ok) (e : p.txt = q.txt) : p = q := by
  have no : ∀ {t : Tst} {x y : ByteArray}, Lib.hasPrefix t.txt.data.toList x.data.toList = false → t.txt = x ++ y → False := fun h e => by
    rw [e, pre_app] at h; cases h
  cases p with
  | tst t =>
    cases q with
    | tst u =>
      obtain ⟨h1, h2, h3, h4, h5⟩ := test_inj hp.1 hq.1 e
      cases t; cases u; simp at *; simp [*]
    | fil x => exact (no (tst_path hp.1) e).elim
    | dir x => exact (no (tst_dir hp.1) e).elim
    | prm x => exact (no (tst_perm hp.1) e).elim
  | fil x =>
    cases q with
    | tst u => exact (no (tst_path hq.1) e.symm).elim
    | fil y =>
      have h1 : x.size ≤ 128 := hp
      have h2 : y.size ≤ 128 := hq
      rw [quoteS_injF (by omega) (by omega) (app_cancel e)]
    | dir y => exact (first_diff (k := 0) (by decide) (by decide) (by decide) e).elim
    | prm y => exact (first_diff (k := 1) (by decide) (by decide) (by decide) e).elim
  | dir x =>
    cases q with
    | tst u => exact (no (tst_dir hq.1) e.symm).elim
    | fil y => exact (first_diff (k := 0) (by decide) (by decide) (by decide) e).elim
    | dir y =>
      have h1 : x.size ≤ 128 := hp
      have h2 : y.size ≤ 128 := hq
      rw [quoteS_injF (by omega) (by omega) (app_cancel e)]
    | prm y => exact (first_diff (k := 0) (by decide) (by decide) (by decide) e).elim
  | prm x =>
    cases q with
    | tst u => exact (no (tst_perm hq.1) e.symm).elim
    | fil y => exact (first_diff (k := 1) (by decide) (by decide) (by decide) e).elim
    | dir y => exact (first_diff (k := 0) (by decide) (by decide) (by decide) e).elim
    | prm y => rw [permS_inj hp hq (app_cancel e)]
theorem flag_ne (p : Part) : p.flag ≠ fK := by
  have h1 : fF ≠ fK := by decide
  have h2 : fC ≠ fK := by decide
  cases p with
  | tst t => unfold Part.flag; simp only []; split; exact h2; exact h1
  | fil _ => exact h1
  | dir _ => exact h1
  | prm _ => exact h1
theorem keyW_inj {a b : ByteArray} (ha : a.size ≤ 31) (hb : b.size ≤ 31) (e : keyW a = keyW b) : a = b := by
  unfold keyW at e
  have z : ∀ {s : ByteArray}, s.size = 0 → s = ⟨#[]⟩ := fun {s} hs => bytes_ext (by
    have : s.data.toList.length = 0 := by rw [Array.length_toList]; exact hs
    rw [List.eq_nil_of_length_eq_zero this])
  split at e
  · split at e
    · rename_i h1 h2; rw [z h1, z h2]
    · cases e
  · split at e
    · cases e
    · injection e with _ e; injection e with e _
      exact quoteS_injF (by omega) (by omega) e
theorem partW_inj : ∀ {ps qs : List Part} {a b : ByteArray}, (∀ p ∈ ps, p.ok) → (∀ q ∈ qs, q.ok) → a.size ≤ 31 → b.size ≤ 31 → partW ps ++ keyW a = partW qs ++ keyW b → ps = qs ∧ a = b
  | [], [], a, b, _, _, ha, hb, e => ⟨rfl, keyW_inj ha hb (by simpa [partW] using e)⟩
  | [], q :: qs, a, b, _, _, _, _, e => by
    unfold keyW at e
    split at e
    · simp [partW] at e
    · simp [partW] at e; exact absurd e.1.symm (flag_ne q)
  | p :: ps, [], a, b, _, _, _, _, e => by
    have e := e.symm
    unfold keyW at e
    split at e
    · simp [partW] at e
    · simp [partW] at e; exact absurd e.1.symm (flag_ne p)
  | p :: ps, q :: qs, a, b, hp, hq, ha, hb, e => by
    have e1 : ∀ (x : Part) (xs : List Part), partW (x :: xs) = x.flag :: x.txt :: partW xs := fun x xs => by simp [partW]
    rw [e1, e1] at e
    simp only [List.cons_append, List.cons.injEq] at e
    obtain ⟨_, e2, e3⟩ := e
    obtain ⟨h1, h2⟩ := partW_inj (fun x hx => hp x (List.mem_cons_of_mem _ hx)) (fun x hx => hq x (List.mem_cons_of_mem _ hx)) ha hb e3
    exact ⟨by rw [part_inj (hp p List.mem_cons_self) (hq q List.mem_cons_self) e2, h1], h2⟩
theorem head_inj {r q : Rul} (hr : ChkR r) (hq : ChkR q) (e : headW r = headW q) : r.ac = q.ac ∧ r.li = q.li := by
  have H : ∀ a b : Fin 3, ∀ l m : Fin 6, (actN a.val ++ (⟨#[44]⟩ : ByteArray) ++ listN l.val).data.toList = (actN b.val ++ (⟨#[44]⟩ : ByteArray) ++ listN m.val).data.toList → a = b ∧ l = m := by decide +kernel
  have h1 := hr.li
  have h2 := hr.ac
  have h3 := hq.li
  have h4 := hq.ac
  obtain ⟨x, y⟩ := H ⟨r.ac.toNat, by omega⟩ ⟨q.ac.toNat, by omega⟩ ⟨r.li.toNat, by omega⟩ ⟨q.li.toNat, by omega⟩ (congrArg (fun s : ByteArray => s.data.toList) e)
  have x := congrArg Fin.val x
  have y := congrArg Fin.val y
  simp at x y
  omega
theorem rul_ext {r q : Rul} (h : ({ r with ke := ⟨#[]⟩ } : Rul) = { q with ke := ⟨#[]⟩ }) (hk : r.ke = q.ke) : r = q := by
  obtain ⟨a1, a2, a3, a4, a5, a6, a7, a8⟩ := r
  obtain ⟨b1, b2, b3, b4, b5, b6, b7, b8⟩ := q
  simp only [Rul.mk.injEq] at h hk ⊢
  exact ⟨h.1, h.2.1, h.2.2.1, h.2.2.2.1, h.2.2.2.2.1, h.2.2.2.2.2.1, h.2.2.2.2.2.2.1, hk⟩
theorem rest_inj {r q : Rul} (hr : GoodR r) (hq : GoodR q) (e : restR r = restR q) : r = q := by
  have cr := checkR_zero hr.ok
  have cq := checkR_zero hq.ok
  unfold restR at e
  injection e with e1 e2
  obtain ⟨ha, hl⟩ := head_inj cr cq e1
  have hca : r.ca = q.ca ∧ partW (partsR r) ++ keyW r.ke = partW (partsR q) ++ keyW q.ke := by
    unfold callW at e2
    rw [hl] at e2
    rcases cr.ca with ⟨h1, h2, h3⟩ | ⟨h1, h2⟩
    · rcases cq.ca with ⟨k1, k2, k3⟩ | ⟨k1, k2⟩
      · rw [if_pos k1, if_pos k1] at e2
        simp only [List.cons_append, List.nil_append, List.cons.injEq, true_and] at e2
        have b1 := mask_back r.ca h3
        have b2 := mask_back q.ca k3
        rw [e2.1, b2] at b1
        injection b1 with b1 _
        exact ⟨b1.symm, e2.2⟩
      · rw [hl, k1] at h1; cases h1
    · rcases cq.ca with ⟨k1, k2, k3⟩ | ⟨k1, k2⟩
      · rw [hl, k1] at h1; cases h1
      · rw [if_neg (by rw [k1]; decide), if_neg (by rw [k1]; decide)] at e2
        exact ⟨by rw [h2, k2], by simpa using e2⟩
  obtain ⟨hc, e3⟩ := hca
  obtain ⟨hp, hk⟩ := partW_inj (parts_ok hr) (parts_ok hq) cr.key cq.key e3
  have p1 := put_parts hr.ok
  have p2 := put_parts hq.ok
  have hb : baseR r = baseR q := by unfold baseR; rw [ha, hl, hc]
  rw [hp, hb, p2] at p1
  exact rul_ext p1.symm hk
/-- The words of a rule's text say the rule. -/
theorem words_of_text {r : Rul} {s : ByteArray} {L : List ByteArray} (e : textR r = s) (hw : IsW 32 s L) : L = fA :: restR r := by
  subst e; exact hw.unique (isW_text r)
theorem words_of_short {r : Rul} {s : ByteArray} {L : List ByteArray} (e : shortT r = s) (hw : IsW 32 s L) : L = flagW r.wa :: restW r := by
  subst e; exact hw.unique (isW_short r)
theorem text_inj {r q : Rul} (hr : GoodR r) (hq : GoodR q) (e : textR r = textR q) : r = q := by
  have := words_of_text e (isW_text q)
  injection this with _ this
  exact (rest_inj hq hr this).symm
theorem text_short {r q : Rul} (e : textR r = shortT q) : False := by
  have := words_of_text e (isW_short q)
  injection this with h _
  unfold flagW at h
  split at h
  · exact absurd h (by decide)
  · exact absurd h (by decide)
theorem shortB_spec {r : Rul} (h : shortB r = true) : checkR r = 0 ∧ r.wa ≠ 0 ∧ r.li = 3 ∧ r.ac = 1 ∧ r.ts = [] ∧ r.ca = allCalls := by
  unfold shortB at h
  simp only [Bool.and_eq_true, decide_eq_true_eq] at h
  exact ⟨h.1, h.2.1, h.2.2.1, h.2.2.2.1, List.eq_nil_of_length_eq_zero h.2.2.2.2.1, h.2.2.2.2.2⟩
end Go.Proofs.YtollifnnpihfdaaGreatDoor
/- Reading the words of a rule one after the other: plain facts. -/
namespace Go.Proofs.YtollifnnpihfdaaGreatDoor
def wordsR (r : Rul) : List ByteArray := fA :: restR r
/-- Where the parts of a rule begin among its words. -/
def a0R (r : Rul) : Nat := 2 + (callW r).length
theorem words_split (r : Rul) : wordsR r = (fA :: headW r :: callW r) ++ (partW (partsR r) ++ keyW r.ke) := by
  unfold wordsR restR; simp
theorem pre_len (r : Rul) : (fA :: headW r :: callW r).length = a0R r := by unfold a0R; simp; omega
theorem partW_len : ∀ ps : List Part, (partW ps).length = 2 * ps.length
  | [] => rfl
  | p :: ps => by
    have e1 : partW (p :: ps) = p.flag :: p.txt :: partW ps := by simp [partW]
    rw [e1]; simp [partW_len ps]; omega
theorem partW_at : ∀ (ps : List Part) (i : Nat) (hi : i < ps.length), (partW ps)[2 * i]? = some (ps[i]'hi).flag ∧ (partW ps)[2 * i + 1]? = some (ps[i]'hi).txt
  | [], i, hi => by simp at hi
  | p :: ps, 0, _ => ⟨rfl, rfl⟩
  | p :: ps, i + 1, hi => by
    have e1 : partW (p :: ps) = p.flag :: p.txt :: partW ps := by simp [partW]
    have := partW_at ps i (by simp at hi; omega)
    rw [e1, show 2 * (i + 1) = (2 * i + 1) + 1 by omega]
    simpa using this
theorem word_part (r : Rul) (i : Nat) (hi : i < (partsR r).length) : (wordsR r)[a0R r + 2 * i]? = some ((partsR r)[i]'hi).flag ∧ (wordsR r)[a0R r + 2 * i + 1]? = some ((partsR r)[i]'hi).txt := by
  obtain ⟨h1, h2⟩ := partW_at (partsR r) i hi
  have hl := partW_len (partsR r)
  rw [words_split]
  constructor
  · rw [List.getElem?_append_right (by rw [pre_len]; omega), pre_len, List.getElem?_append_left (by omega), show a0R r + 2 * i - a0R r = 2 * i by omega, h1]
  · rw [List.getElem?_append_right (by rw [pre_len]; omega), pre_len, List.getElem?_append_left (by omega), show a0R r + 2 * i + 1 - a0R r = 2 * i + 1 by omega, h2]
theorem words_len (r : Rul) : (wordsR r).length = a0R r + 2 * (partsR r).length + (keyW r.ke).length := by
  rw [words_split, List.length_append, List.length_append, pre_len, partW_len]; omega
theorem word_key (r : Rul) (j : Nat) : (wordsR r)[a0R r + 2 * (partsR r).length + j]? = (keyW r.ke)[j]? := by
  have hl := partW_len (partsR r)
  rw [words_split, List.getElem?_append_right (by rw [pre_len]; omega), pre_len, List.getElem?_append_right (by omega), hl]
  congr 1; omega
/-- The state of a reader that has read some of the parts of a rule. -/
structure PathAt (r0 : Rul) (at' : Nat) (r : Rul) : Prop where
  ex : ∃ i, i ≤ (partsR r0).length ∧ at' = a0R r0 + 2 * i ∧ r = ((partsR r0).take i).foldl Rul.put (baseR r0)
theorem PathAt.start (r0 : Rul) : PathAt r0 (a0R r0) (baseR r0) := ⟨0, by omega, by omega, rfl⟩
theorem PathAt.step {r0 r r' : Rul} {k : Nat} {f w : ByteArray} (h : PathAt r0 k r) (hg : GoodR r0) (hf : (wordsR r0)[k]? = some f) (hff : f = fF ∨ f = fC) (hw : (wordsR r0)[k + 1]? = some w) (hp : ∀ p : Part, p.ok → p.txt = w → r' = r.put p) : PathAt r0 (k + 2) r' := by
  obtain ⟨i, hi, rfl, hr⟩ := h.ex
  by_cases hlt : i < (partsR r0).length
  · obtain ⟨h1, h2⟩ := word_part r0 i hlt
    rw [h2] at hw
    have e := hp _ (parts_ok hg _ (List.getElem_mem hlt)) (Option.some.inj hw)
    refine ⟨i + 1, hlt, by omega, ?_⟩
    rw [e, hr, List.take_succ_eq_append_getElem hlt, List.foldl_append]; rfl
  · have hi' : i = (partsR r0).length := by omega
    subst hi'
    have := word_key r0 0
    rw [Nat.add_zero, hf] at this
    unfold keyW at this
    split at this
    · cases this
    · have e : f = fK := Option.some.inj this
      rcases hff with rfl | rfl
      · exact absurd e (by decide)
      · exact absurd e (by decide)
/-- Where the next word is none of a part, all parts have been read. -/
theorem PathAt.stop {r0 r : Rul} {k : Nat} (h : PathAt r0 k r) (hok : checkR r0 = 0) (hf : ∀ f, (wordsR r0)[k]? = some f → f ≠ fF ∧ f ≠ fC) : k = a0R r0 + 2 * (partsR r0).length ∧ r = { r0 with ke := ⟨#[]⟩ } := by
  obtain ⟨i, hi, rfl, hr⟩ := h.ex
  by_cases hlt : i < (partsR r0).length
  · obtain ⟨h1, h2⟩ := word_part r0 i hlt
    have := hf _ h1
    exfalso
    generalize (partsR r0)[i] = p at this
    cases p with
    | tst t =>
      unfold Part.flag at this
      simp only [] at this
      split at this
      · exact this.2 rfl
      · exact this.1 rfl
    | fil _ => exact this.1 rfl
    | dir _ => exact this.1 rfl
    | prm _ => exact this.1 rfl
  · have hi' : i = (partsR r0).length := by omega
    subst hi'
    rw [List.take_length, put_parts hok] at hr
    exact ⟨rfl, hr⟩
theorem ke_zero {k : ByteArray} (h : k.size = 0) : k = ⟨#[]⟩ := bytes_ext (by
  have : k.data.toList.length = 0 := by rw [Array.length_toList]; exact h
  rw [List.eq_nil_of_length_eq_zero this])
/-- The key at the end of a rule's words. -/
theorem key_end {r0 : Rul} {k : Nat} (hk : k = a0R r0 + 2 * (partsR r0).length) (hok : checkR r0 = 0) :
    ((wordsR r0).length = k ∧ r0.ke = ⟨#[]⟩) ∨ ((wordsR r0).length = k + 2 ∧ (wordsR r0)[k]? = some fK ∧ (wordsR r0)[k + 1]? = some (quoteS r0.ke) ∧ r0.ke.size ≤ 31) := by
  subst hk
  have hl := words_len r0
  have h0 := word_key r0 0
  have h1 := word_key r0 1
  rw [Nat.add_zero] at h0
  have hke := (checkR_zero hok).key
  by_cases hz : r0.ke.size = 0
  · left
    have : keyW r0.ke = [] := by unfold keyW; rw [if_pos hz]
    rw [this] at hl
    exact ⟨by simpa using hl, ke_zero hz⟩
  · right
    have : keyW r0.ke = [fK, quoteS r0.ke] := by unfold keyW; rw [if_neg hz]
    rw [this] at hl h0 h1
    exact ⟨by simpa using hl, h0, h1, hke⟩
/-- The words ahead of the parts. -/
theorem words_head {r0 : Rul} (hok : checkR r0 = 0) : (wordsR r0)[0]? = some fA ∧ (wordsR r0)[1]? = some (headW r0) ∧ ((callsB r0.li = true ∧ a0R r0 = 4 ∧ (wordsR r0)[2]? = some fS ∧ (wordsR r0)[3]? = some (maskS r0.ca) ∧ r0.ca < 4294967296) ∨ (callsB r0.li = false ∧ a0R r0 = 2 ∧ r0.ca = 0 ∧ ∀ f, (wordsR r0)[2]? = some f → f ≠ fS)) := by
  have hc := (checkR_zero hok).ca
  refine ⟨rfl, rfl, ?_⟩
  rcases hc with ⟨h1, h2, h3⟩ | ⟨h1, h2⟩
  · left
    have e : callW r0 = [fS, maskS r0.ca] := by unfold callW; rw [if_pos h1]
    refine ⟨h1, by unfold a0R; rw [e]; rfl, ?_, ?_, h3⟩
    · rw [words_split, e]; rfl
    · rw [words_split, e]; rfl
  · right
    have e : callW r0 = [] := by unfold callW; rw [if_neg (by rw [h1]; decide)]
    have ha : a0R r0 = 2 := by unfold a0R; rw [e]; rfl
    refine ⟨h1, ha, h2, fun f hf hfs => ?_⟩
    subst hfs
    by_cases hlt : 0 < (partsR r0).length
    · have := (word_part r0 0 hlt).1
      rw [ha, Nat.mul_zero, Nat.add_zero, hf] at this
      have e := Option.some.inj this
      generalize (partsR r0)[0] = p at e
      cases p with
      | tst t =>
        unfold Part.flag at e
        simp only [] at e
        split at e
        · exact absurd e (by decide)
        · exact absurd e (by decide)
      | fil _ => exact absurd (show fS = fF from e) (by decide)
      | dir _ => exact absurd (show fS = fF from e) (by decide)
      | prm _ => exact absurd (show fS = fF from e) (by decide)
    · have := word_key r0 0
      rw [show (partsR r0).length = 0 by omega, ha, hf] at this
      unfold keyW at this
      split at this
      · cases this
      · have e : fS = fK := Option.some.inj this
        exact absurd e (by decide)
end Go.Proofs.YtollifnnpihfdaaGreatDoor

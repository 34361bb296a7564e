/- Texts of one proof, laid together. -/
import Derived.Test.YtbbihfafkpniiaaGreatDoorC18
import Derived.Test.YtbbihfafkpniiaaGreatDoorC13
import Derived.Test.YtbbihfafkpniiaaGreatDoorC19
import Derived.Deep.RegionHeld3
/- Format of the program's rules returns fmtR. -/
namespace Go.Proofs.YtbbihfafkpniiaaGreatDoor
open Go.RowKit
/-- What of variables the rules' functions read. -/
structure RGlob (w : World) : Prop where
  li : RLists w
  ac : RActs w
  pb : RPerm w
  fn : FNames w
  fo : FOps w
  tb : Tab w
  pw : Pow w
theorem RGlob.below {w w' : World} (h : RGlob w) (hb : Below w.heap.size w w') : RGlob w' := ⟨h.li.below hb, h.ac.below hb, h.pb.below hb, h.fn.below hb, h.fo.below hb, h.tb.below hb (Nat.le_refl _), h.pw.below hb (Nat.le_refl _)⟩
/-- What Format keeps: the rule's box, and the words so far. -/
structure FSt (w wr : World) (r : Rul) (s v : Value) (W : List ByteArray) : Prop where
  g : RulB wr w.heap.size r s
  own : OwnS wr (w.heap.size + 1) v W
  low : Below w.heap.size w wr
section
variable {w wr w' : World} {r : Rul} {s v : Value} {W : List ByteArray}
theorem FSt.below (h : FSt w wr r s v W) (hb : Below wr.heap.size wr w') : FSt w w' r s v W := ⟨Blk.below h.g hb, h.own.below hb, below_then h.low hb⟩
theorem FSt.alloc (h : FSt w wr r s v W) (o : Obj) : FSt w (wr.alloc o) r s v W := h.below ((Below.refl _ _).alloc (Nat.le_refl _) _)
theorem FSt.drewN (h : FSt w wr r s v W) (n : Nat) : FSt w (wr.drewN n) r s v W := h.below (below_drewN (Below.refl _ _) n)
theorem FSt.drew (h : FSt w wr r s v W) : FSt w wr.drew r s v W := h.below (Below.refl wr.heap.size wr).drew
theorem FSt.app (h : FSt w wr r s v W) {o : Obj} {v4 : Value} {w4 : World} {L : List ByteArray} (own : OwnS w4 (w.heap.size + 1) v4 L) (hg : (wr.alloc o).grownBy w4 v.ownBlock) : FSt w w4 r s v4 L := by
  have h1 := h.alloc o
  have ho : ∀ k, v.ownBlock = some k → w.heap.size + 1 ≤ k := fun k hk => h.own.ge k hk
  have hlt := h.g.lt
  exact ⟨h1.g.grown hg (fun e => by have := ho _ e; omega), own, h1.low.grown hg (by simp; omega) (fun k hk => by have := ho k hk; omega)⟩
theorem FSt.lt (h : FSt w wr r s v W) : w.heap.size < wr.heap.size := h.g.lt
end
/-- Two words of the call's own. -/
theorem two_new_S (w : World) (x y : ByteArray) (t : TypeId) : StrsAt (w.alloc (.cells #[.string x, .string y] t)) (w.heap.size + 1) (some ⟨w.heap.size, 0, none⟩) [x, y] := fun k hk => by
  have hc : k = 0 ∨ k = 1 := by simp at hk; omega
  rcases hc with rfl | rfl
  · exact ⟨_, rfl, by show w.heap.size < _; omega, by show World.cell? _ ⟨w.heap.size, 0, none⟩ = _; rw [(Blk.new w #[.string x, .string y] t).cell]; rfl⟩
  · exact ⟨_, rfl, by show w.heap.size < _; omega, by show World.cell? _ ⟨w.heap.size, 1, none⟩ = _; rw [(Blk.new w #[.string x, .string y] t).cell]; rfl⟩
theorem OwnS.two (w : World) {base : Nat} (hb : base ≤ w.heap.size) (x y : ByteArray) : OwnS (w.alloc (.cells #[.string x, .string y] 9)) base (.slice (some ⟨w.heap.size, 0, none⟩) 2 2) [x, y] :=
  World.ownsRow_lit w #[.string x, .string y] 2 hb (by unfold maxLen; omega) rfl
theorem four_new_S (w : World) (x y z u : ByteArray) (t : TypeId) : StrsAt (w.alloc (.cells #[.string x, .string y, .string z, .string u] t)) (w.heap.size + 1) (some ⟨w.heap.size, 0, none⟩) [x, y, z, u] := fun k hk => by
  have hc : k = 0 ∨ k = 1 ∨ k = 2 ∨ k = 3 := by simp at hk; omega
  rcases hc with rfl | rfl | rfl | rfl
  · exact ⟨_, rfl, by show w.heap.size < _; omega, by show World.cell? _ ⟨w.heap.size, 0, none⟩ = _; rw [(Blk.new w #[.string x, .string y, .string z, .string u] t).cell]; rfl⟩
  · exact ⟨_, rfl, by show w.heap.size < _; omega, by show World.cell? _ ⟨w.heap.size, 1, none⟩ = _; rw [(Blk.new w #[.string x, .string y, .string z, .string u] t).cell]; rfl⟩
  · exact ⟨_, rfl, by show w.heap.size < _; omega, by show World.cell? _ ⟨w.heap.size, 2, none⟩ = _; rw [(Blk.new w #[.string x, .string y, .string z, .string u] t).cell]; rfl⟩
  · exact ⟨_, rfl, by show w.heap.size < _; omega, by show World.cell? _ ⟨w.heap.size, 3, none⟩ = _; rw [(Blk.new w #[.string x, .string y, .string z, .string u] t).cell]; rfl⟩
/-- The words of the first k tests. -/
def testsW (ts : List Tst) (k : Nat) : List ByteArray := partW ((ts.take k).map .tst)
theorem testsW_zero (ts : List Tst) : testsW ts 0 = [] := rfl
theorem testsW_next {ts : List Tst} {k : Nat} (hk : k < ts.length) : testsW ts (k + 1) = testsW ts k ++ [(Part.tst ts[k]).flag, (ts[k]).txt] := by
  unfold testsW
  rw [List.take_succ_eq_append_getElem hk, List.map_append]
  unfold partW
  rw [List.flatMap_append]; rfl
theorem testsW_len (ts : List Tst) (k : Nat) (hk : k ≤ ts.length) : (testsW ts k).length = 2 * k := by
  unfold testsW
  rw [partW_len, List.length_map, List.length_take, Nat.min_eq_left hk]
theorem wordsR_split (r : Rul) : restR r = headW r :: (callW r ++ (testsW r.ts r.ts.length ++ (partW (watchP r) ++ keyW r.ke))) := by
  unfold restR testsW partsR
  rw [List.take_length]
  unfold partW
  rw [List.flatMap_append]
  simp
theorem flag_tst (t : Tst) : (Part.tst t).flag = if t.ot ≠ 0 then fC else fF := rfl
theorem part_size (p : Part) (h : p.ok) (ht : ∀ t, p = .tst t → t.tx.size ≤ 640) : p.txt.size ≤ 2100 ∧ p.flag.size ≤ 2 := by
  cases p with
  | tst t =>
    refine ⟨?_, by rw [flag_tst]; split <;> decide⟩
    have h0 : anyE t.fd t.op t.nu t.tx t.ot = 0 := h.1
    have hx := ht t rfl
    show (testS t.fd t.op t.nu t.tx t.ot).size ≤ 2100
    unfold testS
    rw [if_pos h0]
    have h1 := field_len t.fd.toNat
    have h2 := op_len t.op.toNat
    have h3 : (valS t.fd t.nu t.tx t.ot).size ≤ 1300 := by
      unfold valS
      split
      · have := field_len t.ot.toNat; omega
      · split
        · exact quoteS_leF t.tx hx
        · have := numS_lenF t.nu h.2.1 h.2.2; omega
    rw [ByteArray.size_append, ByteArray.size_append]; omega
  | fil q =>
    have hq : q.size ≤ 128 := h
    refine ⟨?_, by show fF.size ≤ 2; decide⟩
    have := quoteS_leF q (by omega)
    show (pathW ++ quoteS q).size ≤ 2100
    rw [ByteArray.size_append]; have e : pathW.size = 5 := rfl; omega
  | dir q =>
    have hq : q.size ≤ 128 := h
    refine ⟨?_, by show fF.size ≤ 2; decide⟩
    have := quoteS_leF q (by omega)
    show (dirW ++ quoteS q).size ≤ 2100
    rw [ByteArray.size_append]; have e : dirW.size = 4 := rfl; omega
  | prm n =>
    refine ⟨?_, by show fF.size ≤ 2; decide⟩
    show (permW ++ permS n).size ≤ 2100
    rw [ByteArray.size_append]
    have e : permW.size = 5 := rfl
    have : (permS n).size ≤ 4 := by rw [permS_bits, ← permK_all]; exact permK_size _ _ _ _ _
    omega
theorem tx_small {t : Tst} {l : Int} (h : t.chk l = 0) : t.tx.size ≤ 640 := by
  obtain ⟨h1, h2, h3, h4, h5, h6, h7⟩ := checkF_zero h
  rcases h6 with h6 | h6
  · rcases h7 with h7 | h7
    · rw [h6] at h7; cases h7
    · omega
  · exact h6.2.2
theorem mask_size (m : Nat) : (maskS m).size ≤ 1000 := by
  unfold maskS
  split
  · decide
  split
  · decide
  · have h1 := join_len ((grp (memF m 0)).map rtext) (fun x hx => by
      obtain ⟨p, hp, rfl⟩ := List.mem_map.1 hx
      exact rtext_len p (grp_small (fun x hx => (memF_ge m 0 x hx).2) p hp))
    have h2 : (grp (memF m 0)).length ≤ 32 := by
      have key : ∀ l : List Nat, (grp l).length ≤ l.length := by
        intro l
        induction l with
        | nil => exact Nat.le_refl _
        | cons a l ih =>
          show (match grp l with | [] => [(a, a)] | (b, c) :: r => if b = a + 1 then (a, c) :: r else (a, a) :: (b, c) :: r).length ≤ _
          cases hg : grp l with
          | nil => simp
          | cons p r =>
            obtain ⟨b, c⟩ := p
            rw [hg] at ih
            simp only
            split
            · simp at ih ⊢; omega
            · simp at ih ⊢; omega
      have h3 := key (memF m 0)
      have h4 : (memF m 0).length ≤ 32 := by unfold memF; exact Nat.le_trans (List.length_filter_le _ _) (by simp)
      omega
    rw [List.length_map] at h1
    show (Lib.join ((grp (memF m 0)).map rtext) [44]).toArray.size ≤ 1000
    simp only [List.size_toArray]
    omega
theorem head_size (r : Rul) : (headW r).size ≤ 20 := by
  have a : ∀ k, (actN k).size ≤ 6 := fun k => by
    by_cases h : k < 3
    · have H : ∀ k : Fin 3, (actN k).size ≤ 6 := by decide +kernel
      exact H ⟨k, h⟩
    · have : actN k = ⟨#[]⟩ := by unfold actN; rw [List.getD_eq_getElem?_getD, List.getElem?_eq_none (by show actL.length ≤ k; have : actL.length = 3 := rfl; omega)]; rfl
      rw [this]; decide
  have b : ∀ k, (listN k).size ≤ 7 := fun k => by
    by_cases h : k < 6
    · have H : ∀ k : Fin 6, (listN k).size ≤ 7 := by decide +kernel
      exact H ⟨k, h⟩
    · have : listN k = ⟨#[]⟩ := by unfold listN; rw [List.getD_eq_getElem?_getD, List.getElem?_eq_none (by show listL.length ≤ k; have : listL.length = 6 := rfl; omega)]; rfl
      rw [this]; decide
  unfold headW
  have h1 := a r.ac.toNat
  have h2 := b r.li.toNat
  rw [ByteArray.size_append, ByteArray.size_append]
  have e : (⟨#[44]⟩ : ByteArray).size = 1 := rfl
  omega
theorem rest_size {r : Rul} (h : GoodR r) : (∀ s ∈ restR r, s.size ≤ 2100) ∧ (restR r).length ≤ 30 := by
  have hc := checkR_zero h.ok
  constructor
  · intro s hs
    rcases List.mem_cons.1 hs with rfl | hs
    · have := head_size r; omega
    rcases List.mem_append.1 hs with hs | hs
    · unfold callW at hs
      split at hs
      · rename_i hcb
        simp at hs
        rcases hs with rfl | rfl
        · decide
        · rcases hc.ca with h1 | h1
          · have := mask_size r.ca; omega
          · rw [h1.1] at hcb; cases hcb
      · cases hs
    rcases List.mem_append.1 hs with hs | hs
    · obtain ⟨p, hp, hs⟩ := List.mem_flatMap.1 hs
      have := part_size p (parts_ok h p hp) (fun t ht => by
        subst ht
        rcases List.mem_append.1 hp with hp | hp
        · obtain ⟨u, hu, e⟩ := List.mem_map.1 hp
          injection e with e; subst e
          exact tx_small (firstE_all hc.tst u hu)
        · unfold watchP at hp
          split at hp
          · simp at hp
          · split at hp
            · simp at hp
            · cases hp)
      simp at hs
      rcases hs with rfl | rfl <;> omega
    · unfold keyW at hs
      split at hs
      · cases hs
      · simp at hs
        rcases hs with rfl | rfl
        · decide
        · have := quoteS_leF r.ke (by have := hc.key; omega); omega
  · have hl := words_len r
    have e : (wordsR r).length = (restR r).length + 1 := rfl
    have h1 : (partsR r).length ≤ 10 := by
      unfold partsR
      rw [List.length_append, List.length_map]
      have := hc.len
      have h2 : (watchP r).length ≤ 2 := by
        unfold watchP
        split
        · simp
        · split <;> simp
      omega
    have h2 : (keyW r.ke).length ≤ 2 := by unfold keyW; split <;> simp
    have h3 : a0R r ≤ 4 := by
      unfold a0R callW
      split <;> simp
    omega
end Go.Proofs.YtbbihfafkpniiaaGreatDoor

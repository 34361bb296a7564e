/- Texts of one proof, laid together. -/
import Derived.Test.YtokkbboahajbhaaGreatDoorRUnq
import Derived.Test.YtokkbboahajbhaaGreatDoorCallVParse
import Derived.Test.YtokkbboahajbhaaGreatDoorRReadN
import Derived.Test.YtokkbboahajbhaaGreatDoorOwn
import Derived.Test.YtokkbboahajbhaaGreatDoorProg
import Derived.Lib.Hide
import Derived.WalkSpells
import Derived.LoopTactic
import Derived.Outline
import Derived.RegionTactic
import Derived.IntWalk
import Derived.Deep.QuietTactic
import Derived.BigQuiet
import Derived.Test.YtokkbboahajbhaaGreatDoorCallRGet
import Derived.Test.YtokkbboahajbhaaGreatDoorAppS
import Derived.Deep.DeepCutAuto
import Derived.Deep.CutBlock
import Derived.Deep.RegionLaw
import Derived.Deep.RegionWith
import Derived.Test.YtokkbboahajbhaaGreatDoorCallSame2
import Derived.Test.YtokkbboahajbhaaGreatDoorCallAgree
import Derived.Deep.RegionHeld
import Derived.Laws.IdiomStrings
import Derived.Test.YtokkbboahajbhaaGreatDoorFrame
import Derived.Lib.SmallJoins
import Derived.Test.YtokkbboahajbhaaGreatDoorRows
import Derived.Test.YtokkbboahajbhaaGreatDoorCallRows
import Derived.SliceStrings
import Derived.Laws.IdiomArrays
import Derived.Handed
import Derived.HandedShaped
import Derived.SizedLaws
import Derived.Shelf.Vars
import Derived.Test.YtokkbboahajbhaaGreatDoorEnvN
import Derived.LaidLaws
/- Unquote of the reference, where the text is written in hexadecimal digits; all cases together. -/
namespace Go.Proofs.YtokkbboahajbhaaGreatDoor
open Go.RowKit
/-- What is left to be read behind the letter x, behind what has been read. -/
def Left2 (s : ByteArray) (i : Nat) (acc : List UInt8) : Prop := unhexL s.data.toList.tail = (unhexL (s.data.toList.drop i)).map (acc ++ ·)
theorem Left2.start (s : ByteArray) : Left2 s 1 [] := by unfold Left2; rw [List.drop_one]; simp
theorem Left2.step {s : ByteArray} {i : Nat} {acc : List UInt8} (h : Left2 s i acc) (h0 : i < s.size) (hj : i + 1 < s.size) (ha : 0 ≤ unhexd s[i]) (hb : 0 ≤ unhexd s[i + 1]) : Left2 s (i + 2) (acc ++ [pairc s[i] s[i + 1]]) := by
  unfold Left2 at *
  rw [h, drop_two s i h0 hj, unhexL, if_neg (by omega)]
  cases unhexL (s.data.toList.drop (i + 2)) <;> simp
theorem Left2.stop {s : ByteArray} {i : Nat} {acc : List UInt8} (h : Left2 s i acc) (h0 : i < s.size) (hj : i + 1 < s.size) (ha : unhexd s[i] < 0 ∨ unhexd s[i + 1] < 0) : unhexL s.data.toList.tail = none := by
  unfold Left2 at h
  rw [h, drop_two s i h0 hj, unhexL, if_pos ha]; rfl
theorem Left2.done {s : ByteArray} {i : Nat} {acc : List UInt8} (h : Left2 s i acc) (hj : s.size ≤ i) : unhexL s.data.toList.tail = some acc := by
  unfold Left2 at h
  rw [h, List.drop_eq_nil_of_le (by simpa using hj)]; simp [unhexL]
theorem app_one (T : ByteArray) (c : UInt8) : (T ++ ⟨#[c]⟩).data.toList = T.data.toList ++ [c] := by simp
set_option maxRecDepth 100000 in
set_option maxHeartbeats 2000000 in
theorem runq_R2 (s : ByteArray) (w : World) (h3 : 3 ≤ s.size) (h5 : s.size ≤ 1281) (h34 : ((s[0].toNat : Int) == 34) = false) (h120 : ((s[0].toNat : Int) == 120) = true) (ho : s.size % 2 = 1) : RUnq s w := by
  have h4 : ((s.size : Int) % 2 == 1) = true := by simp; omega
  have hp : 0 < s.size := by omega
  have d1 : decide (2 ≤ (s.size : Int)) = true := by simp; omega
  have d2 : decide (3 ≤ (s.size : Int)) = true := by simp; omega
  have d3 : decide ((s.size : Int) ≤ 1281) = true := by simp; omega
  have HO := Lib.hid ho
  have HN := Lib.hid (fun (u : List UInt8) (hu : Quotes s.data.toList u) => (quotes_B (by omega) h34 hu).2.2.2.2)
  clear ho
  go_enter Tryz.func43, Tryz.ntmps43
  go_wp2_with fail
  go_loopw [4, 5] (fun v x wr => ∃ (i : Nat) (T : ByteArray), i ≤ s.size ∧ x = .int .i64 (i : Int) ∧ v = .string T ∧ T.size ≤ 1000 ∧ Below w.heap.size w wr ∧ Hid (Left2 s i T.data.toList ∧ 1 + 2 * T.size = i)) (fun _ i _ => s.size - (intOf i).toNat)
  case atStart => exact ⟨1, ⟨#[]⟩, by omega, rfl, rfl, by decide, Below.refl _ _, Left2.start s, rfl⟩
  case round =>
    obtain ⟨i, T, hj, rfl, rfl, hT, hb, hleft⟩ := hrel
    by_cases hlt : i < s.size
    · have hlt1 : i + 1 < s.size := by have := HO.out; have := hleft.out.2; omega
      have a1 : (0 : Int) ≤ (i : Int) := by omega
      have a2 : (i : Int) < (s.size : Int) := by omega
      have a3 : (0 : Int) ≤ (i : Int) + 1 := by omega
      have a4 : (i : Int) + 1 < (s.size : Int) := by omega
      have b1 := unhexd_bounds s[i]
      have b2 := unhexd_bounds s[i + 1]
      have a5 : IntKind.i64.wrap ((i : Int) + 1) = (i : Int) + 1 := IntWalk.i64_in _ (by omega)
      have a6 : ((i : Int) + 1).toNat = i + 1 := by omega
      go_wp2_with fail
      go_quiet ((go_at_call 55; exact Calls.quiet_of_same (rdigit _ _)))
      clear a5
      by_cases n1 : unhexd s[i] < 0
      · have H := Lib.hid (unqO_none fun u hu => by have := HN.out u hu; rw [hleft.out.1.stop hlt hlt1 (.inl n1)] at this; cases this)
        go_wp2_with fail
        go_ret2
        exact ⟨tup (unqS_none H.out).symm (unqE_none H.out).symm, below_drewN hb _⟩
      · by_cases n2 : unhexd s[i + 1] < 0
        · have H := Lib.hid (unqO_none fun u hu => by have := HN.out u hu; rw [hleft.out.1.stop hlt hlt1 (.inr n2)] at this; cases this)
          go_wp2_with fail
          go_ret2
          exact ⟨tup (unqS_none H.out).symm (unqE_none H.out).symm, below_drewN hb _⟩
        · have m1 : 0 ≤ unhexd s[i] := by omega
          have m2 : 0 ≤ unhexd s[i + 1] := by omega
          have m3 : unhexd s[i] < 16 := b1.2
          have m4 : unhexd s[i + 1] < 16 := b2.2
          have H := Lib.hid (hleft.out.1.step hlt hlt1 m1 m2)
          clear b1 b2 n1 n2
          have m5 := (pairc_val _ _ m1 m2).symm
          have hcv : (convert 37 9 (.slice (some ⟨wr.heap.size, 0, none⟩) 1 1)).run Tryz.prog ((wr.drewN nq).alloc (.cells #[bv (pairc s[i] s[i + 1])] 5)) = .ok (.string ⟨#[pairc s[i] s[i + 1]]⟩) ((wr.drewN nq).alloc (.cells #[bv (pairc s[i] s[i + 1])] 5)) :=
            run_convert_bytes_back _ 37 9 5 ⟨wr.heap.size, 0, none⟩ 1 [pairc s[i] s[i + 1]] Tryz.underlying37 Tryz.underlying5 Tryz.underlying9 (fun j hj => by
              have : j = 0 := by simpa using hj
              subst this
              exact cell_one_new _ _ _ 0 _ rfl)
          go_wp2_with fail
          refine ⟨⟨i + 2, T ++ ⟨#[pairc s[i] s[i + 1]]⟩, by omega, by go_num, rfl, ?_, (below_drewN hb nq).alloc hb.size _, ?_, ?_⟩, by simp [intOf]; omega⟩
          · have := hleft.out.2; rw [ByteArray.size_append]; show T.size + 1 ≤ 1000; omega
          · rw [app_one]; exact H.out
          · have := hleft.out.2; rw [ByteArray.size_append]; show 1 + 2 * (T.size + 1) = i + 2; omega
    · have HD := Lib.hid (hleft.out.1.done (by omega))
      by_cases hok : quoteE T = 0 ∧ quoteS T = s
      · have H := Lib.hid (unq_yes hok)
        obtain ⟨k1, k2⟩ := hok
        have K1 := Lib.hid k1
        have K2 := Lib.hid k2
        clear k1 k2
        go_wp2_with fail
        refine (rquote _ _ (by unfold maxLen; omega)).mono ?_
        rintro e w' ⟨rfl, hb'⟩
        rw [K1.out, K2.out]
        go_wp2_with fail
        go_ret2
        exact ⟨tup (by rw [unqS_some H.out]) (unqE_some H.out).symm, hb.trans (hb'.mono hb.size)⟩
      · have H := Lib.hid (unqO_none fun u hu => by
          have := HN.out u hu
          rw [HD.out] at this
          injection this with this
          exact hok ((quotes_iff s T).2 (by rw [this]; exact hu)))
        have hE : quoteE T = 0 := quoteE_zero.2 (by have := hleft.out.2; omega)
        have k3 := str_ne (fun e => hok ⟨hE, e⟩)
        have K1 := Lib.hid hE
        clear hok hE
        go_wp2_with fail
        refine (rquote _ _ (by unfold maxLen; omega)).mono ?_
        rintro e w' ⟨rfl, hb'⟩
        rw [K1.out]
        go_wp2_with fail
        go_ret2
        exact ⟨tup (unqS_none H.out).symm (unqE_none H.out).symm, hb.trans (hb'.mono hb.size)⟩
theorem runquote (s : ByteArray) (w : World) (hs : s.size ≤ 1000000) : RUnq s w := by
  by_cases h0 : 1 ≤ s.size
  · cases h34 : ((s[0].toNat : Int) == 34)
    · have hne : (⟨#[34, 34]⟩ : ByteArray) ≠ s := fun e => by subst e; cases h34
      by_cases h : ((s[0].toNat : Int) == 120) = true ∧ 3 ≤ s.size ∧ s.size % 2 = 1 ∧ s.size ≤ 1281
      · exact runq_R2 s w h.2.1 h.2.2.2 h34 h.1 h.2.2.1
      · have H : unqO s.data.toList = none := unqO_none fun u hu => by
          have := quotes_B h0 h34 hu
          exact h ⟨this.1, this.2.1, this.2.2.1, this.2.2.2.1⟩
        refine runq_R3 s w hs hne H ?_
        by_cases k1 : s.size < 2
        · exact .inl k1
        · refine .inr ⟨h0, h34, ?_⟩
          by_cases k2 : s.size = 2
          · exact .inl k2
          · cases k3 : ((s[0].toNat : Int) == 120)
            · exact .inr (.inl ⟨by omega, rfl⟩)
            · refine .inr (.inr ⟨by omega, rfl, ?_⟩)
              by_cases k4 : s.size % 2 = 0
              · exact .inl k4
              · exact .inr ⟨by omega, by
                  rcases Nat.lt_or_ge 1281 s.size with k | k
                  · exact k
                  · exact absurd ⟨k3, by omega, by omega, k⟩ h⟩
    · by_cases k : 2 ≤ s.size
      · by_cases hok : quoteE (s.extract 1 (s.size - 1)) = 0 ∧ quoteS (s.extract 1 (s.size - 1)) = s
        · exact runq_A1 s w hs k h34 hok
        · rcases quoteE_cases (s.extract 1 (s.size - 1)) with k1 | k1
          · exact runq_A2 s w hs k h34 k1 (fun e => hok ⟨k1, e⟩)
          · exact runq_A3 s w hs k h34 k1
      · have hne : (⟨#[34, 34]⟩ : ByteArray) ≠ s := fun e => by subst e; exact k (by decide)
        refine runq_R3 s w hs hne (unqO_none fun u hu => ?_) (.inl (by omega))
        have h1 := hu.1
        have hl : s.data.toList.length = s.size := Array.length_toList
        rw [← h1] at hl
        unfold quoteL at hl
        cases hs : safeB u <;> simp only [hs] at hl
        · have hne : u ≠ [] := fun e => by subst e; cases hs
          have hpos : 0 < u.length := List.length_pos_iff.2 hne
          simp only [Bool.false_eq_true, if_false, List.length_cons, hexL_length] at hl
          omega
        · simp only [if_true, List.length_cons, List.length_append, List.length_nil] at hl
          omega
  · have hz : s.data.toList = [] := List.eq_nil_of_length_eq_zero (Array.length_toList.trans (by show s.size = 0; omega))
    have hne : (⟨#[34, 34]⟩ : ByteArray) ≠ s := fun e => by subst e; exact h0 (by decide)
    exact runq_R3 s w hs hne (by rw [hz]; rfl) (.inl (by omega))
end Go.Proofs.YtokkbboahajbhaaGreatDoor
/- The walk of Parse of the reference: the call that Format writes as s, or the error. -/
namespace Go.Proofs.YtokkbboahajbhaaGreatDoor
open Go.RowKit
/-- The call so far in block gc, the row of the table in block gr. -/
structure PStR (w wr : World) (gc gr : Nat) (rcs : Array Value) (z : Int) (a : Nat → Int) (vp va : Value) (ps gs : List ByteArray) : Prop where
  st : PSt w wr gc z a vp va ps gs
  row : Blk wr gr 49 rcs
  hne : gr ≠ gc
  np : vp.ownBlock ≠ some gr
  na : va.ownBlock ≠ some gr
section
variable {w wr w' : World} {gc gr : Nat} {rcs : Array Value} {z : Int} {a : Nat → Int} {vp va : Value} {ps gs : List ByteArray}
theorem PStR.below (h : PStR w wr gc gr rcs z a vp va ps gs) (hb : Below wr.heap.size wr w') : PStR w w' gc gr rcs z a vp va ps gs :=
  ⟨h.st.below hb, h.row.below hb, h.hne, h.np, h.na⟩
theorem PStR.setA (h : PStR w wr gc gr rcs z a vp va ps gs) (k : Nat) (hk : k < 4) (v : Int) : PStR w (wr.setCell ⟨gc, 1 + k, none⟩ (.int .i64 v)) gc gr rcs z (putA a k v) vp va ps gs :=
  ⟨h.st.setA k hk v, h.row.put_other (p := ⟨gc, 1 + k, none⟩) _ h.hne, h.hne, h.np, h.na⟩
theorem PStR.addP (h : PStR w wr gc gr rcs z a vp va ps gs) {o : Obj} {v : Value} {w4 : World} {L : List ByteArray} (own : OwnS w4 (gc + 1) v L) (hg : (wr.alloc o).grownBy w4 vp.ownBlock) (hat : v.ownBlock = vp.ownBlock ∨ v.ownBlock = some (wr.alloc o).heap.size) : PStR w (w4.setCell ⟨gc, 5, none⟩ v) gc gr rcs z a v va L gs :=
  ⟨h.st.addP own hg hat, ((h.row.alloc o).grown hg h.np).put_other (p := ⟨gc, 5, none⟩) _ h.hne, h.hne, fun e => by
    rcases hat with k | k
    · exact h.np (k.symm.trans e)
    · rw [e] at k; injection k with k
      have := h.row.lt
      simp at k; omega, h.na⟩
theorem PStR.addG (h : PStR w wr gc gr rcs z a vp va ps gs) {o : Obj} {v : Value} {w4 : World} {L : List ByteArray} (own : OwnS w4 (gc + 1) v L) (hg : (wr.alloc o).grownBy w4 va.ownBlock) (hat : v.ownBlock = va.ownBlock ∨ v.ownBlock = some (wr.alloc o).heap.size) : PStR w (w4.setCell ⟨gc, 6, none⟩ v) gc gr rcs z a vp v ps L :=
  ⟨h.st.addG own hg hat, ((h.row.alloc o).grown hg h.na).put_other (p := ⟨gc, 6, none⟩) _ h.hne, h.hne, h.np, fun e => by
    rcases hat with k | k
    · exact h.na (k.symm.trans e)
    · rw [e] at k; injection k with k
      have := h.row.lt
      simp at k; omega⟩
end
theorem numC_name {x : ByteArray} : (rowI (numC x)).name.size = 0 → numC x < 0 := by
  intro h
  have hr := numC_range x
  rcases Int.lt_or_le (numC x) 0 with h0 | h0
  · exact h0
  · have H : ∀ k : Fin 22, (rowC k).name.size ≠ 0 := by decide +kernel
    rw [rowI_toNat ⟨h0, hr.2⟩] at h
    exact absurd h (H ⟨(numC x).toNat, by omega⟩)
/-- The words read so far: k of R, the first m of them numbers, the next p paths. -/
structure RdSt (R : List ByteArray) (m p k : Nat) (a : Nat → Int) (ps gs : List ByteArray) : Prop where
  num : NumSt R m (min k m) a
  txt : TxtSt (R.drop m) p (k - m) ps gs
theorem RdSt.start (R : List ByteArray) (m p : Nat) : RdSt R m p 0 (fun _ => 0) [] [] :=
  ⟨by rw [Nat.zero_min]; exact NumSt.start R m, by rw [Nat.zero_sub]; exact TxtSt.start _ _⟩
theorem RdSt.nextN {R : List ByteArray} {m p k : Nat} {a : Nat → Int} {ps gs : List ByteArray} (h : RdSt R m p k a ps gs) (hk : k < R.length) (hm : k < m) : RdSt R m p (k + 1) (putA a k (rdN R[k])) ps gs :=
  ⟨by
    have := h.num
    rw [Nat.min_eq_left (by omega)] at this
    rw [Nat.min_eq_left (by omega)]
    exact this.next hk (numW_rd _) (rdN_bd _), by
    have := h.txt
    rw [Nat.sub_eq_zero_of_le (by omega)] at this
    rw [Nat.sub_eq_zero_of_le (by omega)]
    exact this⟩
theorem RdSt.nextP {R : List ByteArray} {m p k : Nat} {a : Nat → Int} {ps gs : List ByteArray} (h : RdSt R m p k a ps gs) (hk : k < R.length) (hm : m ≤ k) (hp : k < m + p) : RdSt R m p (k + 1) a (ps ++ [unqS R[k]]) gs :=
  ⟨by
    have := h.num
    rw [Nat.min_eq_right (by omega)] at this
    rw [Nat.min_eq_right (by omega)]
    exact this, by
    have := h.txt.nextP (by rw [List.length_drop]; omega) (by omega)
    rw [show k + 1 - m = k - m + 1 by omega]
    rw [List.getElem_drop] at this
    simpa [show m + (k - m) = k by omega] using this⟩
theorem RdSt.nextG {R : List ByteArray} {m p k : Nat} {a : Nat → Int} {ps gs : List ByteArray} (h : RdSt R m p k a ps gs) (hk : k < R.length) (hp : m + p ≤ k) : RdSt R m p (k + 1) a ps (gs ++ [unqS R[k]]) :=
  ⟨by
    have := h.num
    rw [Nat.min_eq_right (by omega)] at this
    rw [Nat.min_eq_right (by omega)]
    exact this, by
    have := h.txt.nextG (by rw [List.length_drop]; omega) (by omega)
    rw [show k + 1 - m = k - m + 1 by omega]
    rw [List.getElem_drop] at this
    simpa [show m + (k - m) = k by omega] using this⟩
theorem RdSt.done {x : ByteArray} {R : List ByteArray} {z : Int} {a : Nat → Int} {ps gs : List ByteArray} {m p k : Nat} (h : RdSt R m p k a ps gs) (hz : z = numC x) (hm : (rowI z).nums = m) (hp : (rowI z).pths = p) (hk : R.length ≤ k) (hmk : m ≤ k) : FromW x R z a ps gs := by
  subst hm hp
  refine FromW.made hz ?_ (k := k - (rowI z).nums) (by rw [List.length_drop]; omega) h.txt
  have := h.num
  rwa [Nat.min_eq_right hmk] at this
theorem RdSt.sizes {R : List ByteArray} {m p k : Nat} {a : Nat → Int} {ps gs : List ByteArray} (h : RdSt R m p k a ps gs) : ps.length ≤ R.length ∧ gs.length ≤ R.length := by
  have := h.txt.sizes
  rw [List.length_drop] at this
  omega
attribute [local irreducible] rowI rowC numC numS unqS unqE callS callE rdN
set_option maxRecDepth 100000 in
set_option maxHeartbeats 16000000 in
theorem rparse10 (s : ByteArray) (hs : s.size ≤ 100000) (w : World) :
    Calls Tryz.prog 24 #[.string s] w (CParsePost s w) := by
  have hb0 : Below w.heap.size w (w.alloc (.cells (cellsCall 0 (fun _ => 0) (.slice none 0 0) (.slice none 0 0)) 28)) := (Below.refl _ _).alloc (Nat.le_refl _) _
  have R0 := Blk.new w (cellsCall 0 (fun _ => 0) (.slice none 0 0) (.slice none 0 0)) 28
  go_enter Tryz.func24, Tryz.ntmps24
  go_wp2_with fail
  refine (rcut s 32 32 rfl _ hs).mono ?_
  rintro e w1 ⟨v, L, rfl, hw, ho, hb1⟩
  have R1 := R0.below hb1
  have b1 := below_then hb0 hb1
  have hlt1 := R1.lt
  obtain ⟨Aw, cw, e1, hS⟩ := ho.strs
  subst e1
  clear R0 hb0 hb1 ho
  obtain ⟨x, R, rfl⟩ : ∃ x R, L = x :: R := by
    cases L with
    | nil => exact absurd rfl hw.ne
    | cons x R => exact ⟨x, R, rfl⟩
  have HW := Lib.hid hw
  have hsz := hw.size
  have hlR : R.length ≤ 100000 := by have := hsz.1; simp at this; omega
  have HSZ := Lib.hid (show ∀ y ∈ R, y.size ≤ 100000 from fun y hy => by have := hsz.2 y (List.mem_cons_of_mem _ hy); omega)
  have hn : (x :: R).length = R.length + 1 := rfl
  generalize (x :: R).length = n at *
  have hn1 : n ≤ R.length + 1 := by omega
  have hn2 : R.length + 1 ≤ n := by omega
  clear hn
  obtain ⟨ad, e, hadb, hx0⟩ := hS 0 (by simp)
  subst e
  simp only [List.getElem_cons_zero, Addr.add, if_true] at hx0
  have HS := Lib.hid (show ∀ k (h : k < R.length), w1.cell? (ad.add (k + 1)) = some (.string R[k]) from fun k h => by
    obtain ⟨_, e, _, hh⟩ := hS (k + 1) (by simp; omega)
    cases e
    simpa using hh)
  clear hw hsz hS
  go_wp2_with fail
  refine (rnumber10 x _).mono ?_
  rintro e w2 ⟨rfl, hb2⟩
  have hlt2 : w1.heap.size ≤ w2.heap.size := hb2.size
  have st0 := PSt.new hb2 (numC x)
  have HG := Lib.hid (rget (numC x))
  have hsm := rowI_small (numC x)
  have HNM := Lib.hid (numC_name (x := x))
  have hzr := numC_range x
  generalize hz : numC x = z at *
  have HZ := Lib.hid hz
  clear hz hx0
  have q0 := st0.blk.cell 0
  go_wp2_with fail
  refine (HG.out _).mono ?_
  rintro e w3 ⟨rfl, hb3⟩
  unfold CRow.val
  have st1 := st0.below hb3
  have hlt3 := st1.lt
  clear st0 q0 hb3 HG hb2
  generalize hr : rowI z = r at *
  have HROW := Lib.hid hr
  clear hr
  obtain ⟨nm, m, p, l, u⟩ := r
  obtain ⟨s1, s2, s3, s4, s5⟩ := hsm
  simp only at s1 s2 s3 s4 s5
  have st2 : PStR w1 (w3.alloc (.cells #[.string nm, .int .i64 (m : Int), .int .i64 (p : Int), .int .i64 (l : Int), .int .i64 (u : Int)] 49)) w2.heap.size w3.heap.size #[.string nm, .int .i64 (m : Int), .int .i64 (p : Int), .int .i64 (l : Int), .int .i64 (u : Int)] z (fun _ => 0) (.slice none 0 0) (.slice none 0 0) [] [] :=
    ⟨st1.alloc _, Blk.new w3 _ _, by omega, (fun e => by cases e), (fun e => by cases e)⟩
  clear st1
  have R2 := R1.below st2.st.bel
  have b2 := below_then b1 st2.st.bel
  by_cases hnm : nm.size = 0
  · have e0 : nm.toList.isEmpty = true := by rw [empty_list hnm]; rfl
    have e1 := empty_list hnm
    have HCI := Lib.hid (CIs.no (no_shape HW.out (.inl (by rw [HZ.out]; exact HNM.out hnm))) (a := fun _ => 0) (fun _ _ => rfl))
    clear hnm
    have r0 := R2.cell 0
    have f0 := R2.free 0
    have r1 := R2.cell 1
    have f1 := R2.free 1
    have r2 := R2.cell 2
    have f2 := R2.free 2
    have r3 := R2.cell 3
    have f3 := R2.free 3
    have r4 := R2.cell 4
    have f4 := R2.free 4
    have r5 := R2.cell 5
    have f5 := R2.free 5
    have r6 := R2.cell 6
    have f6 := R2.free 6
    have t0 := st2.row.cell 0
    have t1 := st2.row.cell 1
    have t2 := st2.row.cell 2
    have t3 := st2.row.cell 3
    have t4 := st2.row.cell 4
    go_wp2_with fail
    refine bodyPost_ret (call_ret2 (fn := Tryz.f24) rfl _ _ w.heap.size _ rfl (blk7 R2 0 (fun _ => 0) (.slice none 0 0) (.slice none 0 0)) rfl) rfl ?_
    exact ⟨_, _, _, _, _, _, 103, rfl, HCI.out, OwnS.nil _ _, OwnS.nil _ _, below7 b2 (Nat.le_refl _) 0 (fun _ => 0) _ _⟩
  have e0 : nm.toList.isEmpty = false := by simpa using nonempty_list hnm
  have e1 := nonempty_list hnm
  clear hnm HNM
  by_cases hlo : R.length < m + p
  ·
    have HCI := Lib.hid (CIs.no (no_shape HW.out (.inr (.inl (by rw [HZ.out, HROW.out]; show R.length < m + p + l; omega)))) (a := fun _ => 0) (fun _ _ => rfl))
    have r0 := R2.cell 0
    have f0 := R2.free 0
    have r1 := R2.cell 1
    have f1 := R2.free 1
    have r2 := R2.cell 2
    have f2 := R2.free 2
    have r3 := R2.cell 3
    have f3 := R2.free 3
    have r4 := R2.cell 4
    have f4 := R2.free 4
    have r5 := R2.cell 5
    have f5 := R2.free 5
    have r6 := R2.cell 6
    have f6 := R2.free 6
    have t0 := st2.row.cell 0
    have t1 := st2.row.cell 1
    have t2 := st2.row.cell 2
    have t3 := st2.row.cell 3
    have t4 := st2.row.cell 4
    go_wp2_with fail
    refine bodyPost_ret (call_ret2 (fn := Tryz.f24) rfl _ _ w.heap.size _ rfl (blk7 R2 0 (fun _ => 0) (.slice none 0 0) (.slice none 0 0)) rfl) rfl ?_
    exact ⟨_, _, _, _, _, _, 103, rfl, HCI.out, OwnS.nil _ _, OwnS.nil _ _, below7 b2 (Nat.le_refl _) 0 (fun _ => 0) _ _⟩
  by_cases hhi : m + p + u < R.length
  ·
    have HCI := Lib.hid (CIs.no (no_shape HW.out (.inr (.inr (by rw [HZ.out, HROW.out]; exact hhi)))) (a := fun _ => 0) (fun _ _ => rfl))
    have r0 := R2.cell 0
    have f0 := R2.free 0
    have r1 := R2.cell 1
    have f1 := R2.free 1
    have r2 := R2.cell 2
    have f2 := R2.free 2
    have r3 := R2.cell 3
    have f3 := R2.free 3
    have r4 := R2.cell 4
    have f4 := R2.free 4
    have r5 := R2.cell 5
    have f5 := R2.free 5
    have r6 := R2.cell 6
    have f6 := R2.free 6
    have t0 := st2.row.cell 0
    have t1 := st2.row.cell 1
    have t2 := st2.row.cell 2
    have t3 := st2.row.cell 3
    have t4 := st2.row.cell 4
    go_wp2_with fail
    refine bodyPost_ret (call_ret2 (fn := Tryz.f24) rfl _ _ w.heap.size _ rfl (blk7 R2 0 (fun _ => 0) (.slice none 0 0) (.slice none 0 0)) rfl) rfl ?_
    exact ⟨_, _, _, _, _, _, 103, rfl, HCI.out, OwnS.nil _ _, OwnS.nil _ _, below7 b2 (Nat.le_refl _) 0 (fun _ => 0) _ _⟩
  have HDN := Lib.hid (show ∀ a ps gs k, RdSt R m p k a ps gs → R.length ≤ k → FromW x R z a ps gs from fun a ps gs k h1 h2 => h1.done HZ.out.symm (by rw [HROW.out]) (by rw [HROW.out]) h2 (by omega))
  have hrd := RdSt.start R m p
  have t0 := st2.row.cell 0
  have t1 := st2.row.cell 1
  have t2 := st2.row.cell 2
  have t3 := st2.row.cell 3
  have t4 := st2.row.cell 4
  go_wp2_with fail
  clear t0 t1 t2 t3 t4
  go_loopw [7] (fun i wr => ∃ (j k : Nat) (a : Nat → Int) (vp va : Value) (ps gs : List ByteArray), j = k + 1 ∧ k ≤ R.length ∧ i = .int .i64 (j : Int) ∧ RdSt R m p k a ps gs ∧ PStR w1 wr w2.heap.size w3.heap.size #[.string nm, .int .i64 (m : Int), .int .i64 (p : Int), .int .i64 (l : Int), .int .i64 (u : Int)] z a vp va ps gs) (fun i _ => n - (intOf i).toNat)
  case atStart => exact ⟨1, 0, _, _, _, _, _, rfl, Nat.zero_le _, rfl, hrd, st2⟩
  case round =>
    obtain ⟨i, k, a, vp, va, ps, gs, hik, hk, rfl, hrd, hst⟩ := hrel
    clear st2 R2 b2
    by_cases hkR : k < R.length
    · have hcell : wr.cell? (ad.add i) = some (.string R[k]) := by
        rw [hik]; exact (hst.st.bel.cell (p := ad.add (k + 1)) (by rw [strs_block]; exact hadb)).trans (HS.out k hkR)
      have hyz := HSZ.out _ (List.getElem_mem hkR)
      have hln := hrd.sizes
      obtain ⟨hln1, hln2⟩ := hln
      have t1 : wr.cell? ⟨w3.heap.size, 1, none⟩ = some (.int .i64 (m : Int)) := hst.row.cell 1
      have hi1 : i ≤ k + 1 := by omega
      have hi2 : k + 1 ≤ i := by omega
      clear hik
      by_cases hkm : k < m
      · have HRD := Lib.hid (hrd.nextN hkR hkm)
        have HRR := Lib.hid (fun W => rread R[k] W (by omega))
        clear hrd
        generalize R[k] = y at *
        go_wp2_with fail
        refine (HRR.out _).mono ?_
        rintro e w4 ⟨rfl, rfl⟩
        have hcs : (i = 1 ∧ k = 0) ∨ (i = 2 ∧ k = 1) := by omega
        rcases hcs with ⟨rfl, rfl⟩ | ⟨rfl, rfl⟩
        · have q := hst.st.blk.cell 1
          have f := hst.st.blk.free 1
          go_wp2_with fail
          go_roundw
          case rel => exact ⟨2, 1, _, _, _, _, _, rfl, by omega, by go_num, HRD.out, hst.setA 0 (by omega) _⟩
          case measure => simp [intOf]; omega
        · have q := hst.st.blk.cell 2
          have f := hst.st.blk.free 2
          go_wp2_with fail
          go_roundw
          case rel => exact ⟨3, 2, _, _, _, _, _, rfl, by omega, by go_num, HRD.out, hst.setA 1 (by omega) _⟩
          case measure => simp [intOf]; omega
      · have HU := Lib.hid (fun W => runquote R[k] W (by omega))
        by_cases hkp : k < m + p
        · have HRD := Lib.hid (hrd.nextP hkR (by omega) hkp)
          clear hrd
          generalize R[k] = y at *
          go_wp2_with fail
          refine (HU.out _).mono ?_
          rintro e w4 ⟨rfl, hb4⟩
          have st4 := hst.below hb4
          clear hst hb4 HU hcell t1
          generalize unqS y = t at *
          have t1 : w4.cell? ⟨w3.heap.size, 1, none⟩ = some (.int .i64 (m : Int)) := st4.row.cell 1
          have t2 : w4.cell? ⟨w3.heap.size, 2, none⟩ = some (.int .i64 (p : Int)) := st4.row.cell 2
          have q5 : w4.cell? ⟨w2.heap.size, 5, none⟩ = some vp := st4.st.blk.cell 5
          have hlt4 : w2.heap.size < w4.heap.size := st4.st.lt
          go_wp2_with (at_builtin; refine wpList_append_strs rfl (.tmp 89) (.tmp 91) rfl (w2.heap.size + 1) vp ps rfl (st4.st.op.alloc _) (w4.heap.size + 1) (some ⟨w4.heap.size, 0, none⟩) 1 1 [t] rfl rfl (one_new w4 _ 9) (by simp; omega) (by simp; omega) ?_; intro v5 w5 own5 hg5 hat5; obtain ⟨g5, c5, hv5⟩ := Joins.ownsRow_form own5.out (by simp); subst hv5; have st5 := st4.addP own5 hg5 hat5; have q5' : w5.cell? ⟨w2.heap.size, 5, none⟩ = some vp := (((st4.st.blk.alloc _).grown hg5 (fun e => by have := st4.st.op.ge _ e; omega)).cell 5); have f5' := ((st4.st.blk.alloc (.cells #[.string t] 9)).grown hg5 (fun e => by have := st4.st.op.ge _ e; omega)).free 5)
          clear q5 q5' f5' own5 hg5 hat5 st4
          go_wp2_with fail
          go_roundw
          case rel => exact ⟨i + 1, k + 1, _, _, _, _, _, by omega, by omega, by go_num, HRD.out, (by have k5 := st5; rw [List.length_append] at k5; exact k5)⟩
          case measure => simp [intOf]; omega
        · have HRD := Lib.hid (hrd.nextG hkR (by omega))
          clear hrd
          generalize R[k] = y at *
          go_wp2_with fail
          refine (HU.out _).mono ?_
          rintro e w4 ⟨rfl, hb4⟩
          have st4 := hst.below hb4
          clear hst hb4 HU hcell t1
          generalize unqS y = t at *
          have t1 : w4.cell? ⟨w3.heap.size, 1, none⟩ = some (.int .i64 (m : Int)) := st4.row.cell 1
          have t2 : w4.cell? ⟨w3.heap.size, 2, none⟩ = some (.int .i64 (p : Int)) := st4.row.cell 2
          have q6 : w4.cell? ⟨w2.heap.size, 6, none⟩ = some va := st4.st.blk.cell 6
          have hlt4 : w2.heap.size < w4.heap.size := st4.st.lt
          go_wp2_with (at_builtin; refine wpList_append_strs rfl (.tmp 95) (.tmp 97) rfl (w2.heap.size + 1) va gs rfl (st4.st.og.alloc _) (w4.heap.size + 1) (some ⟨w4.heap.size, 0, none⟩) 1 1 [t] rfl rfl (one_new w4 _ 9) (by simp; omega) (by simp; omega) ?_; intro v5 w5 own5 hg5 hat5; obtain ⟨g5, c5, hv5⟩ := Joins.ownsRow_form own5.out (by simp); subst hv5; have st5 := st4.addG own5 hg5 hat5; have q6' : w5.cell? ⟨w2.heap.size, 6, none⟩ = some va := (((st4.st.blk.alloc _).grown hg5 (fun e => by have := st4.st.og.ge _ e; omega)).cell 6); have f6' := ((st4.st.blk.alloc (.cells #[.string t] 9)).grown hg5 (fun e => by have := st4.st.og.ge _ e; omega)).free 6)
          clear q6 q6' f6' own5 hg5 hat5 st4
          go_wp2_with fail
          go_roundw
          case rel => exact ⟨i + 1, k + 1, _, _, _, _, _, by omega, by omega, by go_num, HRD.out, (by have k5 := st5; rw [List.length_append] at k5; exact k5)⟩
          case measure => simp [intOf]; omega
    · have hi1 : i ≤ k + 1 := by omega
      have hi2 : k + 1 ≤ i := by omega
      clear hik
      have HF := Lib.hid (HDN.out a ps gs k hrd (by omega))
      have HI := Lib.hid hrd.num.rng
      have hsz := HF.out.sizes (by omega)
      obtain ⟨z1, z2, z3, z4⟩ := hsz
      obtain ⟨P, cp, e3, hP⟩ := hst.st.op.strs
      obtain ⟨A, ca, e4, hA⟩ := hst.st.og.strs
      subst e3 e4
      have HV := Lib.hid (rformat10 z a P cp A ca ps gs wr wr.heap.size (Nat.le_refl _) hP hA (by omega) (by omega) (fun s hs => by have := z3 s hs; unfold maxLen; omega) (fun s hs => by have := z4 s hs; unfold maxLen; omega) (fun j hj => HI.out j hj))
      clear hrd z3 z4 hP hA
      have q0 := hst.st.blk.cell 0
      have q1 := hst.st.blk.cell 1
      have q2 := hst.st.blk.cell 2
      have q3 := hst.st.blk.cell 3
      have q4 := hst.st.blk.cell 4
      have q5 := hst.st.blk.cell 5
      have q6 := hst.st.blk.cell 6
      go_wp2_with fail
      refine HV.out.mono ?_
      rintro e w4 ⟨rfl, hb4⟩
      have st4 := hst.below hb4
      have R4 := R1.below st4.st.bel
      have b4 := below_then b1 st4.st.bel
      clear hst hb4 HV q0 q1 q2 q3 q4 q5 q6
      have q0 := st4.st.blk.cell 0
      have q1 := st4.st.blk.cell 1
      have q2 := st4.st.blk.cell 2
      have q3 := st4.st.blk.cell 3
      have q4 := st4.st.blk.cell 4
      have q5 := st4.st.blk.cell 5
      have q6 := st4.st.blk.cell 6
      have r0 := R4.cell 0
      have f0 := R4.free 0
      have r1 := R4.cell 1
      have f1 := R4.free 1
      have r2 := R4.cell 2
      have f2 := R4.free 2
      have r3 := R4.cell 3
      have f3 := R4.free 3
      have r4 := R4.cell 4
      have f4 := R4.free 4
      have r5 := R4.cell 5
      have f5 := R4.free 5
      have r6 := R4.cell 6
      have f6 := R4.free 6
      by_cases h0 : callE z a ps gs = 0
      · by_cases h1 : callS z a ps gs = s
        · have HCI := Lib.hid (show CIs s z a ps gs 0 from .inl ⟨rfl, h0, h1, HI.out⟩)
          have t1 := str_eq h1
          rw [h0]
          clear h0 h1
          go_wp2_with fail
          refine bodyPost_ret (call_ret2 (fn := Tryz.f24) rfl _ _ w.heap.size _ rfl (blk7 R4 z a (.slice P ps.length cp) (.slice A gs.length ca)) rfl) rfl ?_
          exact ⟨_, _, _, _, _, _, 0, rfl, HCI.out, (own7 st4.st.op (by omega) z a _ _).low (by omega), (own7 st4.st.og (by omega) z a _ _).low (by omega), below7 b4 (Nat.le_refl _) z a _ _⟩
        · have HCI := Lib.hid (CIs.no (CIs.tested HF.out HW.out (fun h => h1 h.2)) (a := fun _ => 0) (fun _ _ => rfl))
          have t1 := str_ne h1
          rw [h0]
          clear h0 h1
          go_wp2_with fail
          refine bodyPost_ret (call_ret2 (fn := Tryz.f24) rfl _ _ w.heap.size _ rfl (blk7 R4 0 (fun _ => 0) (.slice none 0 0) (.slice none 0 0)) rfl) rfl ?_
          exact ⟨_, _, _, _, _, _, 103, rfl, HCI.out, OwnS.nil _ _, OwnS.nil _ _, below7 b4 (Nat.le_refl _) 0 (fun _ => 0) _ _⟩
      · have HCI := Lib.hid (CIs.no (CIs.tested HF.out HW.out (fun h => h0 h.1)) (a := fun _ => 0) (fun _ _ => rfl))
        have t0 : (callE z a ps gs != 0) = true := by simpa using h0
        clear h0
        go_wp2_with fail
        refine bodyPost_ret (call_ret2 (fn := Tryz.f24) rfl _ _ w.heap.size _ rfl (blk7 R4 0 (fun _ => 0) (.slice none 0 0) (.slice none 0 0)) rfl) rfl ?_
        exact ⟨_, _, _, _, _, _, 103, rfl, HCI.out, OwnS.nil _ _, OwnS.nil _ _, below7 b4 (Nat.le_refl _) 0 (fun _ => 0) _ _⟩
end Go.Proofs.YtokkbboahajbhaaGreatDoor
/- The source of numbers of package kauditmake: New and N. What is said of N: a number from 0 to n - 1, and the source stays one. -/
namespace Go.Proofs.YtokkbboahajbhaaGreatDoor
open Go.RowKit
/-- Block g holds a source whose list lies below base; it has handed out at most b numbers. -/
def SrcOk (w : World) (base g : Nat) (b : Int) : Prop := base ≤ g ∧ ∃ (A : Option Addr) (n c : Nat) (a : Int), w.heap[g]? = some (.cells #[.slice A n c, .int .i64 a] 40 (0, 0)) ∧ 0 ≤ a ∧ a ≤ b ∧ (n : Int) ≤ 9223372036854775807 ∧
  ∀ k, k < n → ∃ (ad : Addr) (z : Int), A = some ad ∧ ad.block < base ∧ w.cell? (ad.add k) = some (.int .i64 z) ∧ -9223372036854775808 ≤ z ∧ z ≤ 9223372036854775807
theorem src_lt {w : World} {base g : Nat} {b : Int} (h : SrcOk w base g b) : g < w.heap.size := by
  obtain ⟨_, A, n, c, a, hg, _⟩ := h
  exact (Array.getElem?_eq_some_iff.1 hg).1
theorem SrcOk.more {w : World} {base g : Nat} {b b' : Int} (h : SrcOk w base g b) (hb : b ≤ b') : SrcOk w base g b' := by
  obtain ⟨h0, A, n, c, a, hg, ha, hab, hn, hl⟩ := h
  exact ⟨h0, A, n, c, a, hg, ha, by omega, hn, hl⟩
theorem block_add (a : Addr) (n : Nat) : (a.add n).block = a.block := by unfold Addr.add; split <;> rfl
/-- The source is kept where its block and the blocks below base are. -/
theorem SrcOk.keep {w w' : World} {base g : Nat} {b : Int} (h : SrcOk w base g b) (hg' : w'.heap[g]? = w.heap[g]?) (hk : ∀ i, i < base → w'.heap[i]? = w.heap[i]?) : SrcOk w' base g b := by
  obtain ⟨h0, A, n, c, a, hg, ha, hab, hn, hl⟩ := h
  refine ⟨h0, A, n, c, a, hg'.trans hg, ha, hab, hn, fun k hk' => ?_⟩
  obtain ⟨ad, z, e, hb, hc, hz⟩ := hl k hk'
  exact ⟨ad, z, e, hb, (World.cell?_of_block (by rw [block_add]; exact hk _ hb)).trans hc, hz⟩
theorem SrcOk.below {w w' : World} {base g : Nat} {b : Int} (h : SrcOk w base g b) (hb : Below w.heap.size w w') : SrcOk w' base g b :=
  h.keep (hb.block g (src_lt h)) fun i hi => hb.block i (by have := src_lt h; have := h.1; omega)
theorem SrcOk.grown {w w' : World} {base g : Nat} {b : Int} (h : SrcOk w base g b) {row : Option Nat} (hg : w.grownBy w' row) (hr : ∀ r, row = some r → base ≤ r ∧ r ≠ g) : SrcOk w' base g b :=
  h.keep (hg.block g (src_lt h) (fun e => (hr g e.symm).2 rfl)) fun i hi => hg.block i (by have := src_lt h; have := h.1; omega) (fun e => by have := (hr i e.symm).1; omega)
theorem SrcOk.alloc {w : World} {base g : Nat} {b : Int} (h : SrcOk w base g b) (o : Obj) : SrcOk (w.alloc o) base g b := h.below ((Below.refl _ _).alloc (Nat.le_refl _) o)
theorem SrcOk.drewN {w : World} {base g : Nat} {b : Int} (h : SrcOk w base g b) (n : Nat) : SrcOk (w.drewN n) base g b := h
theorem SrcOk.drew {w : World} {base g : Nat} {b : Int} (h : SrcOk w base g b) : SrcOk w.drew base g b := h
theorem SrcOk.setCell {w : World} {base g : Nat} {b : Int} (h : SrcOk w base g b) {p : Addr} (hp : base ≤ p.block) (hne : p.block ≠ g) (u : Value) : SrcOk (w.setCell p u) base g b :=
  h.keep (Below.heap_setCell w p u g (Ne.symm hne)) fun i hi => Below.heap_setCell w p u i (by omega)
/-- Only block g, and what is new, has changed: the steps. -/
theorem only_drewN {a w : World} {row : Option Nat} (h : a.grownBy w row) (n : Nat) : a.grownBy (w.drewN n) row := ⟨h.os, h.tape, h.output, h.size, h.block⟩
theorem only_alloc {a w : World} {row : Option Nat} (h : a.grownBy w row) (o : Obj) : a.grownBy (w.alloc o) row :=
  ⟨h.os, h.tape, h.output, Nat.le_trans h.size (by simp), fun i hi hne => (Below.heap_alloc w o i (Nat.lt_of_lt_of_le hi h.size)).trans (h.block i hi hne)⟩
theorem only_setCell {a w : World} {g : Nat} (h : a.grownBy w (some g)) {p : Addr} (hp : p.block = g ∨ a.heap.size ≤ p.block) (u : Value) : a.grownBy (w.setCell p u) (some g) :=
  ⟨h.os, h.tape, h.output, by simpa [World.setCell] using h.size, fun i hi hne => (Below.heap_setCell w p u i (fun e => by
    rcases hp with hp | hp
    · exact hne (by rw [e, hp])
    · omega)).trans (h.block i hi hne)⟩
theorem only_below {a w w' : World} {row : Option Nat} (h : a.grownBy w row) (hb : Below w.heap.size w w') : a.grownBy w' row :=
  ⟨hb.os.trans h.os, hb.tape.trans h.tape, hb.output.trans h.output, Nat.le_trans h.size hb.size, fun i hi hne => (hb.block i (Nat.lt_of_lt_of_le hi h.size)).trans (h.block i hi hne)⟩
theorem below_only {B : Nat} {a w w' : World} {g : Nat} (h : Below B a w) (hg : w.grownBy w' (some g)) (hB : B ≤ w.heap.size) (hBg : B ≤ g) : Below B a w' :=
  h.grown hg hB fun k hk => by injection hk with hk; omega
def NPost (w : World) (base g : Nat) (b n : Int) (e : Ending) (w' : World) : Prop := ∃ x : Int, e = .returned (.int .i64 x) ∧ 0 ≤ x ∧ x < n ∧ SrcOk w' base g (b + 1) ∧ w.grownBy w' (some g)
theorem src_set {w : World} {base g : Nat} {b : Int} (h0 : base ≤ g) {A : Option Addr} {n c : Nat} {a : Int} (hg : w.heap[g]? = some (.cells #[.slice A n c, .int .i64 a] 40 (0, 0))) (ha : 0 ≤ a) (hab : a ≤ b) (hn : (n : Int) ≤ 9223372036854775807)
    (hl : ∀ k, k < n → ∃ (ad : Addr) (z : Int), A = some ad ∧ ad.block < base ∧ w.cell? (ad.add k) = some (.int .i64 z) ∧ -9223372036854775808 ≤ z ∧ z ≤ 9223372036854775807) :
    SrcOk (w.setCell ⟨g, 1, none⟩ (.int .i64 (a + 1))) base g (b + 1) ∧ w.grownBy (w.setCell ⟨g, 1, none⟩ (.int .i64 (a + 1))) (some g) := by
  refine ⟨⟨h0, A, n, c, a + 1, heap_setCell_same w g 1 #[.slice A n c, .int .i64 a] _ (.int .i64 (a + 1)) hg, by omega, by omega, hn, fun k hk => ?_⟩, only_setCell (World.grownBy.refl w _) (.inl rfl) _⟩
  obtain ⟨ad, z, e, hb, hc, hz⟩ := hl k hk
  exact ⟨ad, z, e, hb, (World.cell?_of_block (by rw [block_add]; exact Below.heap_setCell w ⟨g, 1, none⟩ _ _ (by show ad.block ≠ g; omega))).trans hc, hz⟩
theorem tmod_bd (z n : Int) (hn : 1 ≤ n) : -n < z.tmod n ∧ z.tmod n < n := by
  have h1 := Int.tmod_lt_of_pos z (show 0 < n by omega)
  have h2 : -n < z.tmod n := by
    have := Int.tmod_lt_of_pos (-z) (show 0 < n by omega)
    rw [Int.neg_tmod] at this; omega
  exact ⟨h2, h1⟩
set_option maxHeartbeats 1000000 in
theorem src_n (w : World) (base g : Nat) (b n : Int) (h : SrcOk w base g b) (hb : b ≤ 1000000000000000) (hn1 : 1 ≤ n) (hn2 : n ≤ 1000000000000000) :
    Calls Tryz.prog 9 #[.pointer (some ⟨g, 0, none⟩), .int .i64 n] w (NPost w base g b n) := by
  obtain ⟨h0, A, ln, c, a, hg, ha, hab, hln, hl⟩ := h
  have HSET := Lib.hid (src_set h0 hg ha hab hln hl)
  have q0 : w.cell? ⟨g, 0, none⟩ = some (.slice A ln c) := cell_of_row w g 0 _ _ (0, 0) hg
  have q1 : w.cell? ⟨g, 1, none⟩ = some (.int .i64 a) := cell_of_row w g 1 _ _ (0, 0) hg
  have qf : w.frozen? ⟨g, 1, none⟩ = false := frozen_of_row w g 1 _ _ hg
  have HG := Lib.hid (show (w.setCell ⟨g, 1, none⟩ (.int .i64 (a + 1))).heap[g]? = some (.cells #[.slice A ln c, .int .i64 (a + 1)] 40 (0, 0)) from heap_setCell_same w g 1 #[.slice A ln c, .int .i64 a] _ (.int .i64 (a + 1)) hg)
  have hkb : a + 1 ≤ 1000000000000001 := by omega
  have HL := Lib.hid hl
  have HLN := Lib.hid hln
  clear hg hl hln
  by_cases hlt : a < (ln : Int)
  · obtain ⟨ad, z, hA, hadb, hc, hz0, hz1⟩ := HL.out a.toNat (by omega)
    subst hA
    have HC := Lib.hid (show (w.setCell ⟨g, 1, none⟩ (.int .i64 (a + 1))).cell? (ad.add a.toNat) = some (.int .i64 z) from
      (World.cell?_of_block (by rw [block_add]; exact Below.heap_setCell w ⟨g, 1, none⟩ _ _ (by show ad.block ≠ g; omega))).trans hc)
    clear hc HL
    have d1 : decide (a + 1 ≤ (ln : Int)) = true := by simp; omega
    have tb := Lib.hid (tmod_bd z n hn1)
    go_enter Tryz.func9, Tryz.ntmps9
    go_wp2_with fail
    clear q0 q1 qf
    generalize w.setCell ⟨g, 1, none⟩ (.int .i64 (a + 1)) = w1 at *
    have s0 : w1.cell? ⟨g, 0, none⟩ = some (.slice (some ad) ln c) := cell_of_row w1 g 0 _ _ (0, 0) HG.out
    have s1 : w1.cell? ⟨g, 1, none⟩ = some (.int .i64 (a + 1)) := cell_of_row w1 g 1 _ _ (0, 0) HG.out
    have s2 := HC.out
    go_quiet (fail)
    have w1' : IntKind.i64.wrap (a + 1 - 1) = a := by rw [show a + 1 - 1 = a by omega]; exact IntWalk.i64_in _ (by omega)
    go_wp2_with fail
    go_quiet (fail)
    clear w1' s0 s1 s2 d1
    obtain ⟨t1, t2⟩ := tb.out
    go_wp2_with fail
    all_goals
      go_ret
      exact ⟨_, rfl, by omega, by omega, HSET.out.1, only_drewN HSET.out.2 _⟩
  · have d1 : decide (a + 1 ≤ (ln : Int)) = false := by simp; omega
    have d2 : (0 : Int) ≤ (a + 1) * 7 := by omega
    have tb1 : 0 ≤ ((a + 1) * 7) % n := Int.emod_nonneg _ (by omega)
    have tb2 : ((a + 1) * 7) % n < n := Int.emod_lt_of_pos _ (by omega)
    clear HL
    go_enter Tryz.func9, Tryz.ntmps9
    go_wp2_with fail
    clear q0 q1 qf
    generalize w.setCell ⟨g, 1, none⟩ (.int .i64 (a + 1)) = w1 at *
    have s0 : w1.cell? ⟨g, 0, none⟩ = some (.slice A ln c) := cell_of_row w1 g 0 _ _ (0, 0) HG.out
    have s1 : w1.cell? ⟨g, 1, none⟩ = some (.int .i64 (a + 1)) := cell_of_row w1 g 1 _ _ (0, 0) HG.out
    go_quiet (fail)
    clear s0 s1 d1
    go_wp2_with fail
    go_ret
    exact ⟨_, rfl, tb1, tb2, HSET.out.1, only_drewN HSET.out.2 _⟩
/-- New makes a source of a list that lies below base. -/
theorem src_new (w : World) (A : Option Addr) (n c : Nat) (hn : (n : Int) ≤ 9223372036854775807)
    (hl : ∀ k, k < n → ∃ (ad : Addr) (z : Int), A = some ad ∧ ad.block < w.heap.size ∧ w.cell? (ad.add k) = some (.int .i64 z) ∧ -9223372036854775808 ≤ z ∧ z ≤ 9223372036854775807) :
    Calls Tryz.prog 4 #[.slice A n c] w fun e w' => e = .returned (.pointer (some ⟨w.heap.size, 0, none⟩)) ∧ SrcOk w' w.heap.size w.heap.size 0 ∧ Below w.heap.size w w' := by
  have HL := Lib.hid hl
  have HN := Lib.hid hn
  clear hl hn
  go_enter Tryz.func4, Tryz.ntmps4
  go_wp2
  go_ret
  refine ⟨rfl, ⟨Nat.le_refl _, A, n, c, 0, heap_alloc_new w _, by omega, by omega, HN.out, fun k hk => ?_⟩, (Below.refl _ _).alloc (Nat.le_refl _) _⟩
  obtain ⟨ad, z, e, hb, hc, hz⟩ := HL.out k hk
  exact ⟨ad, z, e, hb, (World.cell?_of_block (by rw [block_add]; exact Below.heap_alloc w _ _ hb)).trans hc, hz⟩
end Go.Proofs.YtokkbboahajbhaaGreatDoor
/- The source of numbers of package kauditmake: Range, Pick, Word. -/
namespace Go.Proofs.YtokkbboahajbhaaGreatDoor
open Go.RowKit
/-- A row of strings of at most m bytes; a row of numbers from lo to hi. -/
def strsLe (cs : Array Value) (m : Nat) : Bool := cs.toList.all fun | .string x => decide (x.size ≤ m) | _ => false
def intsIn (cs : Array Value) (lo hi : Int) : Bool := cs.toList.all fun | .int .i64 x => decide (lo ≤ x) && decide (x ≤ hi) | _ => false
theorem strsLe_at {cs : Array Value} {m : Nat} (h : strsLe cs m = true) (k : Nat) (hk : k < cs.size) : ∃ x : ByteArray, cs[k]? = some (.string x) ∧ x.size ≤ m := by
  have hm : cs[k] ∈ cs.toList := Array.mem_toList_iff.2 (Array.getElem_mem hk)
  have := List.all_eq_true.1 h _ hm
  split at this
  · rename_i x e
    exact ⟨x, by rw [Array.getElem?_eq_getElem hk, e], by simpa using this⟩
  · cases this
theorem intsIn_at {cs : Array Value} {lo hi : Int} (h : intsIn cs lo hi = true) (k : Nat) (hk : k < cs.size) : ∃ x : Int, cs[k]? = some (.int .i64 x) ∧ lo ≤ x ∧ x ≤ hi := by
  have hm : cs[k] ∈ cs.toList := Array.mem_toList_iff.2 (Array.getElem_mem hk)
  have := List.all_eq_true.1 h _ hm
  split at this
  · rename_i x e
    simp at this
    exact ⟨x, by rw [Array.getElem?_eq_getElem hk, e], this.1, this.2⟩
  · cases this
def SPost (w : World) (base g : Nat) (b : Int) (m : Nat) (e : Ending) (w' : World) : Prop := ∃ x : ByteArray, e = .returned (.string x) ∧ x.size ≤ m ∧ SrcOk w' base g b ∧ w.grownBy w' (some g)
def IPost (w : World) (base g : Nat) (b lo hi : Int) (e : Ending) (w' : World) : Prop := ∃ x : Int, e = .returned (.int .i64 x) ∧ lo ≤ x ∧ x ≤ hi ∧ SrcOk w' base g b ∧ w.grownBy w' (some g)
theorem only_cell {w w' : World} {g B : Nat} {cs : Array Value} {t : TypeId} {fr : Nat × Nat} (hg : w.grownBy w' (some g)) (hB : w.heap[B]? = some (.cells cs t fr)) (hne : B ≠ g) (k : Nat) : w'.cell? ⟨B, k, none⟩ = cs[k]? :=
  cell_of_row w' B k cs t fr ((hg.block B (Array.getElem?_eq_some_iff.1 hB).1 (fun e => hne (by injection e))).trans hB)
set_option maxHeartbeats 400000 in
theorem src_range (w : World) (base g : Nat) (b lo hi : Int) (h : SrcOk w base g b) (hb : b ≤ 1000000000000000) (h1 : lo ≤ hi) (h2 : -1000000 ≤ lo) (h3 : hi ≤ 1000000) :
    Calls Tryz.prog 13 #[.pointer (some ⟨g, 0, none⟩), .int .i64 lo, .int .i64 hi] w (IPost w base g (b + 1) lo hi) := by
  have H := Lib.hid h
  have HB := Lib.hid hb
  clear h hb
  go_enter Tryz.func13, Tryz.ntmps13
  go_wp2_with fail
  refine (src_n _ base g b _ H.out HB.out (by omega) (by omega)).mono ?_
  rintro e w1 ⟨x, rfl, hx0, hx1, hs, hg⟩
  have HS := Lib.hid hs
  clear hs
  go_wp2_with fail
  go_ret
  exact ⟨_, rfl, by omega, by omega, HS.out, hg⟩
set_option maxHeartbeats 400000 in
theorem src_word (w : World) (base g B : Nat) (b : Int) (n m : Nat) (cs : Array Value) (t : TypeId) (fr : Nat × Nat) (h : SrcOk w base g b) (hb : b ≤ 1000000000000000) (hB : w.heap[B]? = some (.cells cs t fr)) (hne : B ≠ g)
    (hn : cs.size = n) (h1 : 1 ≤ n) (h2 : n ≤ 1000) (hall : strsLe cs m = true) :
    Calls Tryz.prog 15 #[.pointer (some ⟨g, 0, none⟩), .slice (some ⟨B, 0, none⟩) n n] w (SPost w base g (b + 1) m) := by
  have H := Lib.hid h
  have HB := Lib.hid hb
  have HBB := Lib.hid hB
  have HN := Lib.hid hn
  clear h hb hB hn
  go_enter Tryz.func15, Tryz.ntmps15
  go_wp2_with fail
  refine (src_n _ base g b _ H.out HB.out (by omega) (by omega)).mono ?_
  rintro e w1 ⟨x, rfl, hx0, hx1, hs, hg⟩
  have HS := Lib.hid hs
  clear hs
  obtain ⟨k, rfl⟩ := Int.eq_ofNat_of_zero_le hx0
  have hk : k < n := by omega
  obtain ⟨y, hy, hym⟩ := strsLe_at hall k (by rw [HN.out]; exact hk)
  have hc := (only_cell hg HBB.out hne k).trans hy
  clear hy
  go_wp2_with fail
  go_ret
  exact ⟨_, rfl, hym, HS.out, hg⟩
set_option maxHeartbeats 400000 in
theorem src_pick (w : World) (base g B : Nat) (b : Int) (n : Nat) (lo hi : Int) (cs : Array Value) (t : TypeId) (fr : Nat × Nat) (h : SrcOk w base g b) (hb : b ≤ 1000000000000000) (hB : w.heap[B]? = some (.cells cs t fr)) (hne : B ≠ g)
    (hn : cs.size = n) (h1 : 1 ≤ n) (h2 : n ≤ 1000) (hall : intsIn cs lo hi = true) :
    Calls Tryz.prog 11 #[.pointer (some ⟨g, 0, none⟩), .slice (some ⟨B, 0, none⟩) n n] w (IPost w base g (b + 1) lo hi) := by
  have H := Lib.hid h
  have HB := Lib.hid hb
  have HBB := Lib.hid hB
  have HN := Lib.hid hn
  clear h hb hB hn
  go_enter Tryz.func11, Tryz.ntmps11
  go_wp2_with fail
  refine (src_n _ base g b _ H.out HB.out (by omega) (by omega)).mono ?_
  rintro e w1 ⟨x, rfl, hx0, hx1, hs, hg⟩
  have HS := Lib.hid hs
  clear hs
  obtain ⟨k, rfl⟩ := Int.eq_ofNat_of_zero_le hx0
  have hk : k < n := by omega
  obtain ⟨y, hy, hy0, hy1⟩ := intsIn_at hall k (by rw [HN.out]; exact hk)
  have hc := (only_cell hg HBB.out hne k).trans hy
  clear hy
  go_wp2_with fail
  go_ret
  exact ⟨_, rfl, hy0, hy1, HS.out, hg⟩
end Go.Proofs.YtokkbboahajbhaaGreatDoor
/- The source of numbers of package kauditmake: Text, Name, Path. -/
namespace Go.Proofs.YtokkbboahajbhaaGreatDoor
open Go.RowKit
theorem SPost.more {w w' : World} {base g : Nat} {b b' : Int} {m m' : Nat} {e : Ending} (h : SPost w base g b m e w') (hb : b ≤ b') (hm : m ≤ m') : SPost w base g b' m' e w' := by
  obtain ⟨x, h1, h2, h3, h4⟩ := h
  exact ⟨x, h1, by omega, h3.more hb, h4⟩
set_option maxHeartbeats 1000000 in
theorem src_name (w : World) (base g : Nat) (b : Int) (h : SrcOk w base g b) (hb : b ≤ 100000000000000) :
    Calls Tryz.prog 26 #[.pointer (some ⟨g, 0, none⟩)] w (SPost w base g (b + 2) 13) := by
  have H := Lib.hid h
  have HB := Lib.hid hb
  clear h hb
  go_enter Tryz.func26, Tryz.ntmps26
  go_wp2_with fail
  refine (src_n _ base g b _ H.out (by have := HB.out; omega) (by omega) (by omega)).mono ?_
  rintro e w1 ⟨x, rfl, hx0, hx1, hs, hg⟩
  have HS := Lib.hid hs
  have hlt : g < w1.heap.size := src_lt hs
  clear hs
  by_cases hx : x = 19
  · have hxb : (x == 19) = true := by simpa using hx
    clear hx
    go_wp2_with fail
    refine (src_word _ base g w1.heap.size (b + 1) 8 13 _ 9 (0, 0) (HS.out.alloc _) (by have := HB.out; omega) (heap_alloc_new w1 _) (by omega) rfl (by omega) (by omega) rfl).mono ?_
    rintro e w2 ⟨y, rfl, hym, hs2, hg2⟩
    have HS2 := Lib.hid hs2
    clear hs2
    go_wp2_with fail
    go_ret
    exact ⟨_, rfl, hym, HS2.out.more (by omega), (only_alloc hg _).trans hg2⟩
  · have hxb : (x == 19) = false := by simpa using hx
    clear hx
    go_wp2_with fail
    refine (src_word _ base g w1.heap.size (b + 1) 6 13 _ 9 (0, 0) (HS.out.alloc _) (by have := HB.out; omega) (heap_alloc_new w1 _) (by omega) rfl (by omega) (by omega) rfl).mono ?_
    rintro e w2 ⟨y, rfl, hym, hs2, hg2⟩
    have HS2 := Lib.hid hs2
    clear hs2
    go_wp2_with fail
    go_ret
    exact ⟨_, rfl, hym, HS2.out.more (by omega), (only_alloc hg _).trans hg2⟩
set_option maxRecDepth 100000 in
set_option maxHeartbeats 4000000 in
theorem src_path (w : World) (base g : Nat) (b : Int) (h : SrcOk w base g b) (hb : b ≤ 10000000000000) :
    Calls Tryz.prog 14 #[.pointer (some ⟨g, 0, none⟩)] w (SPost w base g (b + 20) 60) := by
  have H := Lib.hid h
  have HB := Lib.hid hb
  clear h hb
  go_enter Tryz.func14, Tryz.ntmps14
  go_wp2_with fail
  refine (src_n _ base g b _ H.out (by have := HB.out; omega) (by omega) (by omega)).mono ?_
  rintro e w1 ⟨x, rfl, hx0, hx1, hs, hg⟩
  have HS := Lib.hid hs
  have hlt1 : g < w1.heap.size := src_lt hs
  clear hs
  go_wp2_with fail
  all_goals
    refine (src_pick _ base g w1.heap.size (b + 1) 7 0 4 _ 3 (0, 0) (HS.out.alloc _) (by have := HB.out; omega) (heap_alloc_new w1 _) (by omega) rfl (by omega) (by omega) rfl).mono ?_
    rintro e w2 ⟨n, rfl, hn0, hn1, hs2, hg2⟩
    obtain ⟨n0, rfl⟩ := Int.eq_ofNat_of_zero_le hn0
    have HS2 := Lib.hid hs2
    have hgf := (only_alloc hg (.cells #[.int .i64 1, .int .i64 1, .int .i64 2, .int .i64 2, .int .i64 3, .int .i64 0, .int .i64 4] 3)).trans hg2
    clear hs2 hg2 hg
    go_wp2_with fail
    go_loopw [3, 5] (fun v i wr => ∃ (T : ByteArray) (k : Nat), v = .string T ∧ i = .int .i64 (k : Int) ∧ k ≤ n0 ∧ T.size ≤ 1 + 14 * k ∧ w.grownBy wr (some g) ∧ Hid (SrcOk wr base g (b + 2 + 3 * k))) (fun _ i _ => n0 - (intOf i).toNat)
    case atStart => exact ⟨_, 0, rfl, rfl, Nat.zero_le _, by decide, hgf, HS2.out.more (by omega)⟩
    case round =>
      obtain ⟨T, k, rfl, rfl, hk, hT, hgr, hsr⟩ := hrel
      clear hgf HS2 HS
      have hT4 : T.size ≤ 100 := by omega
      by_cases hkn : k < n0
      · by_cases hk0 : 0 < k
        all_goals
          go_wp2_with fail
          refine (src_n _ base g (b + 2 + 3 * k) _ hsr.out (by have := HB.out; omega) (by omega) (by omega)).mono ?_
          rintro e w3 ⟨y, rfl, hy0, hy1, hs3, hg3⟩
          have HS3 := Lib.hid hs3
          have hg3' := hgr.trans hg3
          have hlt3 : g < w3.heap.size := src_lt hs3
          clear hs3 hg3
          by_cases hy : y = 7
          · have hyb : (y == 7) = true := by simpa using hy
            clear hy
            go_wp2_with fail
            refine (src_word _ base g w3.heap.size (b + 2 + 3 * k + 1) 4 13 _ 9 (0, 0) (HS3.out.alloc _) (by have := HB.out; omega) (heap_alloc_new w3 _) (by omega) rfl (by omega) (by omega) rfl).mono ?_
            rintro e w4 ⟨z, rfl, hzm, hs4, hg4⟩
            have HS4 := Lib.hid hs4
            have hg4' := (only_alloc hg3' (.cells #[.string ⟨#[46]⟩, .string ⟨#[46, 46]⟩, .string ⟨#[]⟩, .string ⟨#[97, 47, 47, 98]⟩] 9)).trans hg4
            clear hs4 hg4
            go_wp2_with fail
            go_roundw
            case rel => exact ⟨_, k + 1, rfl, by go_num, by omega, by simp only [ByteArray.size_append]; first | omega | (show _ + 1 + _ ≤ _; omega), hg4', HS4.out.more (by omega)⟩
            case measure => simp [intOf]; omega
          · have hyb : (y == 7) = false := by simpa using hy
            clear hy
            go_wp2_with fail
            refine (src_name _ base g (b + 2 + 3 * k + 1) HS3.out (by have := HB.out; omega)).mono ?_
            rintro e w4 ⟨z, rfl, hzm, hs4, hg4⟩
            have HS4 := Lib.hid hs4
            have hg4' := hg3'.trans hg4
            clear hs4 hg4
            go_wp2_with fail
            go_roundw
            case rel => exact ⟨_, k + 1, rfl, by go_num, by omega, by simp only [ByteArray.size_append]; first | omega | (show _ + 1 + _ ≤ _; omega), hg4', HS4.out.more (by omega)⟩
            case measure => simp [intOf]; omega
      · go_wp2_with fail
        refine (src_n _ base g (b + 2 + 3 * k) _ hsr.out (by have := HB.out; omega) (by omega) (by omega)).mono ?_
        rintro e w3 ⟨y, rfl, hy0, hy1, hs3, hg3⟩
        have HS3 := Lib.hid hs3
        have hg3' := hgr.trans hg3
        clear hs3 hg3
        by_cases hy : y = 7
        · have hyb : (y == 7) = true := by simpa using hy
          clear hy
          go_wp2_with fail
          go_ret
          exact ⟨_, rfl, by rw [ByteArray.size_append]; show _ + 1 ≤ _; omega, HS3.out.more (by omega), hg3'⟩
        · have hyb : (y == 7) = false := by simpa using hy
          clear hy
          go_wp2_with fail
          go_ret
          exact ⟨_, rfl, by omega, HS3.out.more (by omega), hg3'⟩
end Go.Proofs.YtokkbboahajbhaaGreatDoor
/- The source of numbers of package kauditmake: Call. -/
namespace Go.Proofs.YtokkbboahajbhaaGreatDoor
open Go.RowKit
/-- Block gc holds a call. -/
def CBlk (w : World) (gc : Nat) (z : Int) (a : Nat → Int) (vp va : Value) : Prop := Blk w gc 28 #[.int .i64 z, .int .i64 (a 0), .int .i64 (a 1), .int .i64 (a 2), .int .i64 (a 3), vp, va] ∧ ∀ j, j < 4 → 0 ≤ a j ∧ a j ≤ 1000
theorem SrcOk.row {w : World} {base g : Nat} {b : Int} (h : SrcOk w base g b) {p : Addr} (hp : base ≤ p.block) (hne : p.block ≠ g) (u : Value) : SrcOk (w.setCell p u) base g b := h.setCell hp hne u
def setA (a : Nat → Int) (k : Nat) (v : Int) : Nat → Int := fun j => if j = k then v else a j
theorem CBlk.setA {w : World} {gc : Nat} {z : Int} {a : Nat → Int} {vp va : Value} (h : CBlk w gc z a vp va) (k : Nat) (hk : k < 4) (v : Int) (h0 : 0 ≤ v) (h1 : v ≤ 1000) : CBlk (w.setCell ⟨gc, 1 + k, none⟩ (.int .i64 v)) gc z (setA a k v) vp va := by
  refine ⟨?_, fun j hj => ?_⟩
  · have := h.1.put (1 + k) (.int .i64 v)
    match k, hk with
    | 0, _ => exact this
    | 1, _ => exact this
    | 2, _ => exact this
    | 3, _ => exact this
  · unfold Go.Proofs.YtokkbboahajbhaaGreatDoor.setA
    split
    · exact ⟨h0, h1⟩
    · exact h.2 j hj
theorem CBlk.only {w w' : World} {gc g : Nat} {z : Int} {a : Nat → Int} {vp va : Value} (h : CBlk w gc z a vp va) (hg : w.grownBy w' (some g)) (hne : gc ≠ g) : CBlk w' gc z a vp va := ⟨h.1.grown hg (fun e => hne (by injection e with e; exact e.symm)), h.2⟩
theorem CBlk.below {w w' : World} {gc : Nat} {z : Int} {a : Nat → Int} {vp va : Value} (h : CBlk w gc z a vp va) (hb : Below w.heap.size w w') : CBlk w' gc z a vp va := ⟨h.1.below hb, h.2⟩
theorem CBlk.alloc {w : World} {gc : Nat} {z : Int} {a : Nat → Int} {vp va : Value} (h : CBlk w gc z a vp va) (o : Obj) : CBlk (w.alloc o) gc z a vp va := ⟨h.1.alloc o, h.2⟩
abbrev zeroC : Array Value := #[.int .i64 0, .int .i64 0, .int .i64 0, .int .i64 0, .int .i64 0, .slice none 0 0, .slice none 0 0]
/-- What the making of a call keeps: the source, the call so far, the block of the result. -/
structure CSt (w wr : World) (base g : Nat) (b : Int) (rc gc : Nat) (z : Int) (a : Nat → Int) (vp va : Value) : Prop where
  only : w.grownBy wr (some g)
  src : SrcOk wr base g b
  cb : CBlk wr gc z a vp va
  rb : Blk wr rc 28 zeroC
  h1 : w.heap.size ≤ rc
  h2 : rc < gc
  h3 : g < w.heap.size
  h4 : base ≤ w.heap.size
section
variable {w wr w' : World} {base g rc gc : Nat} {b b' : Int} {z : Int} {a : Nat → Int} {vp va : Value}
theorem CSt.more (h : CSt w wr base g b rc gc z a vp va) (hb : b ≤ b') : CSt w wr base g b' rc gc z a vp va := ⟨h.only, h.src.more hb, h.cb, h.rb, h.h1, h.h2, h.h3, h.h4⟩
theorem CSt.alloc (h : CSt w wr base g b rc gc z a vp va) (o : Obj) : CSt w (wr.alloc o) base g b rc gc z a vp va := ⟨only_alloc h.only o, h.src.alloc o, h.cb.alloc o, h.rb.alloc o, h.h1, h.h2, h.h3, h.h4⟩
theorem CSt.step (h : CSt w wr base g b rc gc z a vp va) (hs : SrcOk w' base g b') (hg : wr.grownBy w' (some g)) : CSt w w' base g b' rc gc z a vp va :=
  ⟨h.only.trans hg, hs, h.cb.only hg (by have := h.h1; have := h.h2; have := h.h3; omega), h.rb.grown hg (fun e => by injection e with e; have := h.h1; have := h.h3; omega), h.h1, h.h2, h.h3, h.h4⟩
theorem CSt.below (h : CSt w wr base g b rc gc z a vp va) (hb : Below wr.heap.size wr w') : CSt w w' base g b rc gc z a vp va :=
  ⟨only_below h.only hb, h.src.below hb, h.cb.below hb, h.rb.below hb, h.h1, h.h2, h.h3, h.h4⟩
theorem CSt.setA (h : CSt w wr base g b rc gc z a vp va) (k : Nat) (hk : k < 4) (v : Int) (h0 : 0 ≤ v) (h1 : v ≤ 1000) : CSt w (wr.setCell ⟨gc, 1 + k, none⟩ (.int .i64 v)) base g b rc gc z (setA a k v) vp va :=
  ⟨only_setCell h.only (.inr (by show w.heap.size ≤ gc; have := h.h1; have := h.h2; omega)) _, h.src.setCell (by show base ≤ gc; have := h.h1; have := h.h2; have := h.h4; omega) (by show gc ≠ g; have := h.h1; have := h.h2; have := h.h3; omega) _, h.cb.setA k hk v h0 h1, h.rb.put_other _ (by show rc ≠ gc; have := h.h2; omega), h.h1, h.h2, h.h3, h.h4⟩
theorem CSt.drew (h : CSt w wr base g b rc gc z a vp va) : CSt w wr.drew base g b rc gc z a vp va := ⟨⟨h.only.os, h.only.tape, h.only.output, h.only.size, h.only.block⟩, h.src.drew, h.cb, h.rb, h.h1, h.h2, h.h3, h.h4⟩
theorem CSt.grown (h : CSt w wr base g b rc gc z a vp va) {row : Option Nat} (hg : wr.grownBy w' row) (hr : ∀ r, row = some r → gc < r) : CSt w w' base g b rc gc z a vp va :=
  ⟨⟨hg.os.trans h.only.os, hg.tape.trans h.only.tape, hg.output.trans h.only.output, Nat.le_trans h.only.size hg.size, fun i hi hne => (hg.block i (Nat.lt_of_lt_of_le hi h.only.size) (fun e => by have := hr i e.symm; have := h.h1; have := h.h2; omega)).trans (h.only.block i hi hne)⟩,
    h.src.grown hg (fun r e => by have := hr r e; have := h.h1; have := h.h2; have := h.h3; have := h.h4; omega), ⟨h.cb.1.grown hg (fun e => by have := hr gc e; omega), h.cb.2⟩, h.rb.grown hg (fun e => by have := hr rc e; have := h.h2; omega), h.h1, h.h2, h.h3, h.h4⟩
theorem CSt.setP (h : CSt w wr base g b rc gc z a vp va) (v : Value) : CSt w (wr.setCell ⟨gc, 5, none⟩ v) base g b rc gc z a v va :=
  ⟨only_setCell h.only (.inr (by show w.heap.size ≤ gc; have := h.h1; have := h.h2; omega)) _, h.src.setCell (by show base ≤ gc; have := h.h1; have := h.h2; have := h.h4; omega) (by show gc ≠ g; have := h.h1; have := h.h2; have := h.h3; omega) _, ⟨h.cb.1.put 5 v, h.cb.2⟩, h.rb.put_other _ (by show rc ≠ gc; have := h.h2; omega), h.h1, h.h2, h.h3, h.h4⟩
theorem CSt.setG (h : CSt w wr base g b rc gc z a vp va) (v : Value) : CSt w (wr.setCell ⟨gc, 6, none⟩ v) base g b rc gc z a vp v :=
  ⟨only_setCell h.only (.inr (by show w.heap.size ≤ gc; have := h.h1; have := h.h2; omega)) _, h.src.setCell (by show base ≤ gc; have := h.h1; have := h.h2; have := h.h4; omega) (by show gc ≠ g; have := h.h1; have := h.h2; have := h.h3; omega) _, ⟨h.cb.1.put 6 v, h.cb.2⟩, h.rb.put_other _ (by show rc ≠ gc; have := h.h2; omega), h.h1, h.h2, h.h3, h.h4⟩
theorem CSt.setZ (h : CSt w wr base g b rc gc z a vp va) (z' : Int) : CSt w (wr.setCell ⟨gc, 0, none⟩ (.int .i64 z')) base g b rc gc z' a vp va :=
  ⟨only_setCell h.only (.inr (by show w.heap.size ≤ gc; have := h.h1; have := h.h2; omega)) _, h.src.setCell (by show base ≤ gc; have := h.h1; have := h.h2; have := h.h4; omega) (by show gc ≠ g; have := h.h1; have := h.h2; have := h.h3; omega) _, ⟨h.cb.1.put 0 (.int .i64 z'), h.cb.2⟩, h.rb.put_other _ (by show rc ≠ gc; have := h.h2; omega), h.h1, h.h2, h.h3, h.h4⟩
theorem one_at_new (w : World) (x : ByteArray) (t : TypeId) : StrsAt (w.alloc (.cells #[.string x] t)) (w.heap.size + 1) (some ⟨w.heap.size, 0, none⟩) [x] := fun k hk => by
  have hk : k = 0 := by simp at hk; omega
  subst hk
  exact ⟨_, rfl, by show w.heap.size < _; omega, by show World.cell? _ ⟨w.heap.size, 0, none⟩ = _; rw [(Blk.new w #[.string x] t).cell]; rfl⟩
theorem OwnS.only {w w' : World} {lo : Nat} {v : Value} {L : List ByteArray} (h : OwnS w lo v L) {g : Nat} (hg : w.grownBy w' (some g)) (hlt : g < lo) : OwnS w' lo v L :=
  World.ownsRow.kept h hg (by
    cases hv : v.ownBlock with
    | none => exact .inl rfl
    | some k => right; intro e; injection e with e; have := h.ge k hv; omega)
theorem OwnS.setCell {w : World} {lo : Nat} {v : Value} {L : List ByteArray} (h : OwnS w lo v L) {p : Addr} (hp : p.block < lo) (u : Value) : OwnS (w.setCell p u) lo v L := ownsRow_setCell_below h hp u
end
/-- What Call makes: a call whose lists are its own. -/
def CallPost (w : World) (base g : Nat) (b : Int) (e : Ending) (w' : World) : Prop := ∃ (z : Int) (a : Nat → Int) (vp va : Value) (ps gs : List ByteArray), e = .returned (.agg #[.int .i64 z, .int .i64 (a 0), .int .i64 (a 1), .int .i64 (a 2), .int .i64 (a 3), vp, va]) ∧ (-1 ≤ z ∧ z ≤ 33) ∧ (∀ j, j < 4 → 0 ≤ a j ∧ a j ≤ 1000) ∧ ps.length ≤ 2 ∧ gs.length ≤ 4 ∧ (∀ s ∈ ps, s.size ≤ 60) ∧ (∀ s ∈ gs, s.size ≤ 4) ∧ OwnS w' w.heap.size vp ps ∧ OwnS w' w.heap.size va gs ∧ SrcOk w' base g b ∧ w.grownBy w' (some g)
theorem call_size : (Tryz.prog.info? 28).map (·.size) = some 7 := by kernel_rfl
theorem call_ret {f : FuncId} {fn : Func} (_hf : Tryz.prog.funcs[f]? = some fn) (h : fn.results = #[.cell 2 28]) (tmps : Array Value) (w : World) (g : Nat) (cs : Array Value) (hp : tmps.getD 2 undef = .pointer (some ⟨g, 0, none⟩)) (hg : Blk w g 28 cs) (h7 : cs.size = 7) :
    (results fn tmps).run Tryz.prog w = .ok (.agg cs) w :=
  results_cell_row h tmps w g _ cs (0, 0) _ hp hg Tryz.underlying28 rfl (by rw [h7]; exact call_size)
theorem OwnS.mono {w : World} {lo lo' : Nat} {v : Value} {L : List ByteArray} (h : OwnS w lo v L) (hb : lo' ≤ lo) : OwnS w lo' v L := Joins.ownsRow_le h hb
theorem OwnS.far {w w' : World} {lo : Nat} {v v2 : Value} {L : List ByteArray} (h : OwnS w lo v L) (hg : w.grownBy w' v2.ownBlock) (hne : ∀ r, v.ownBlock = some r → v2.ownBlock ≠ some r) : OwnS w' lo v L :=
  World.ownsRow.kept h hg (by
    cases hv : v.ownBlock with
    | none => exact .inl rfl
    | some k => right; intro e; exact hne k hv e.symm)
theorem slice_form {w : World} {lo : Nat} {v : Value} {L : List ByteArray} (h : OwnS w lo v L) : ∃ A n c, v = .slice A n c := by
  obtain ⟨A, c, e, _⟩ := h.strs
  exact ⟨A, _, c, e⟩
attribute [local irreducible] rowI rowC
set_option maxRecDepth 100000 in
set_option maxHeartbeats 16000000 in
theorem src_call (w : World) (base g : Nat) (b : Int) (h : SrcOk w base g b) (hb : b ≤ 1000000000000) :
    Calls Tryz.prog 5 #[.pointer (some ⟨g, 0, none⟩)] w (CallPost w base g (b + 200)) := by
  have H := Lib.hid h
  have HB := Lib.hid hb
  have hlt0 : g < w.heap.size := src_lt h
  have hbase : base ≤ w.heap.size := by have := h.1; omega
  clear h hb
  go_enter Tryz.func5, Tryz.ntmps5
  go_wp2_with fail
  refine (src_pick _ base g (w.heap.size + 1) b 26 0 21 _ 3 (0, 0) ((H.out.alloc (.cells zeroC 28)).alloc _) (by have := HB.out; omega) (by have := heap_alloc_new (w.alloc (.cells zeroC 28)) (.cells #[.int .i64 0, .int .i64 1, .int .i64 2, .int .i64 3, .int .i64 4, .int .i64 5, .int .i64 6, .int .i64 6, .int .i64 6, .int .i64 7, .int .i64 8, .int .i64 9, .int .i64 10, .int .i64 11, .int .i64 11, .int .i64 12, .int .i64 13, .int .i64 13, .int .i64 14, .int .i64 15, .int .i64 16, .int .i64 17, .int .i64 18, .int .i64 19, .int .i64 20, .int .i64 21] 3); simpa using this) (by omega) rfl (by omega) (by omega) rfl).mono ?_
  rintro e w1 ⟨z, rfl, hz0, hz1, hs1, hg1⟩
  have hon := (only_alloc (only_alloc (World.grownBy.refl w (some g)) (.cells zeroC 28)) (.cells #[.int .i64 0, .int .i64 1, .int .i64 2, .int .i64 3, .int .i64 4, .int .i64 5, .int .i64 6, .int .i64 6, .int .i64 6, .int .i64 7, .int .i64 8, .int .i64 9, .int .i64 10, .int .i64 11, .int .i64 11, .int .i64 12, .int .i64 13, .int .i64 13, .int .i64 14, .int .i64 15, .int .i64 16, .int .i64 17, .int .i64 18, .int .i64 19, .int .i64 20, .int .i64 21] 3)).trans hg1
  have hrb : Blk w1 w.heap.size 28 zeroC := ((Blk.new w zeroC 28).alloc _).grown hg1 (fun e => by injection e with e; omega)
  have hlt1 : w.heap.size < w1.heap.size := hrb.lt
  have HST : CSt w (w1.alloc (.cells #[.int .i64 z, .int .i64 0, .int .i64 0, .int .i64 0, .int .i64 0, .slice none 0 0, .slice none 0 0] 28)) base g (b + 1) w.heap.size w1.heap.size z (fun _ => 0) (.slice none 0 0) (.slice none 0 0) :=
    ⟨only_alloc hon _, hs1.alloc _, ⟨Blk.new w1 _ _, fun j _ => by simp⟩, hrb.alloc _, Nat.le_refl _, hlt1, hlt0, hbase⟩
  clear hs1 hg1 hon hrb
  go_wp2_with fail
  have HSH := Lib.hid (rshape z)
  have hsm : (rowI z).nums ≤ 2 ∧ (rowI z).pths ≤ 2 ∧ (rowI z).least ≤ 1 ∧ (rowI z).most ≤ 4 ∧ (rowI z).least ≤ (rowI z).most := by
    obtain ⟨n, rfl⟩ := Int.eq_ofNat_of_zero_le hz0
    rw [rowI_nat]
    have H : ∀ m : Fin 22, (rowC m).nums ≤ 2 ∧ (rowC m).pths ≤ 2 ∧ (rowC m).least ≤ 1 ∧ (rowC m).most ≤ 4 ∧ (rowC m).least ≤ (rowC m).most := by decide +kernel
    exact H ⟨n, by omega⟩
  generalize rowI z = r at *
  obtain ⟨nm, m, p, l, u⟩ := r
  obtain ⟨s1, s2, s3, s4, s5⟩ := hsm
  simp only at s1 s2 s3 s4 s5
  refine (HSH.out _).mono ?_
  rintro e w2 ⟨rfl, hb2⟩
  have hst2 := HST.below hb2
  clear HST hb2 HSH
  go_wp2_with fail
  generalize w1.heap.size = gc at *
  generalize w.heap.size = rc at *
  go_loopw [8] (fun i wr => ∃ (k : Nat) (a : Nat → Int), k ≤ m ∧ i = .int .i64 (k : Int) ∧ CSt w wr base g (b + 1 + k) rc gc z a (.slice none 0 0) (.slice none 0 0)) (fun i _ => m - (intOf i).toNat)
  case atStart => exact ⟨0, _, Nat.zero_le _, rfl, hst2.more (by omega)⟩
  case round =>
    obtain ⟨k, a, hk, rfl, hst⟩ := hrel
    clear hst2
    by_cases hkm : k < m
    · have hlt : g < wr.heap.size := src_lt hst.src
      go_wp2_with fail
      refine (src_pick _ base g wr.heap.size (b + 1 + k) 8 0 493 _ 3 (0, 0) (hst.src.alloc _) (by have := HB.out; omega) (heap_alloc_new wr _) (by omega) rfl (by omega) (by omega) rfl).mono ?_
      rintro e w3 ⟨x, rfl, hx0, hx1, hs3, hg3⟩
      have hst3 := (hst.alloc (.cells #[.int .i64 0, .int .i64 1, .int .i64 2, .int .i64 3, .int .i64 5, .int .i64 7, .int .i64 420, .int .i64 493] 3)).step hs3 hg3
      clear hs3 hg3 hst
      have hcs : k = 0 ∨ k = 1 := by omega
      rcases hcs with rfl | rfl
      · have q := hst3.cb.1.cell 1
        have f := hst3.cb.1.free 1
        go_wp2_with fail
        go_roundw
        case rel => exact ⟨1, _, by omega, by go_num, (hst3.setA 0 (by omega) x hx0 (by omega)).more (by omega)⟩
        case measure => simp [intOf]; omega
      · have q := hst3.cb.1.cell 2
        have f := hst3.cb.1.free 2
        go_wp2_with fail
        go_roundw
        case rel => exact ⟨2, _, by omega, by go_num, (hst3.setA 1 (by omega) x hx0 (by omega)).more (by omega)⟩
        case measure => simp [intOf]; omega
    · have q0 := hst.cb.1.cell 0
      have HST := hst
      go_upto_block 2 with (fail)
      go_cut [] (fun wx => ∃ a, CSt w wx base g (b + 10) rc gc z a (.slice none 0 0) (.slice none 0 0))
      case first =>
        clear q0
        by_cases h6 : z = 6
        · have t6 : (z == 6) = true := by simpa using h6
          clear h6
          go_wp2_with fail
          refine (src_pick _ base g wr.heap.size (b + 1 + k) 12 0 64 _ 3 (0, 0) (hst.src.alloc _) (by have := HB.out; omega) (heap_alloc_new wr _) (by have := src_lt hst.src; omega) rfl (by omega) (by omega) rfl).mono ?_
          rintro e w3 ⟨x, rfl, x0, x1, hs, hg⟩
          have st_w3 := (hst.alloc (.cells #[.int .i64 1, .int .i64 2, .int .i64 3, .int .i64 6, .int .i64 6, .int .i64 7, .int .i64 14, .int .i64 22, .int .i64 33, .int .i64 38, .int .i64 0, .int .i64 64] 3)).step hs hg
          clear hs hg hst
          go_wp2_with fail
          refine (src_pick _ base g w3.heap.size (b + 1 + k + 1) 5 0 512 _ 3 (0, 0) (st_w3.src.alloc _) (by have := HB.out; omega) (heap_alloc_new w3 _) (by have := src_lt st_w3.src; omega) rfl (by omega) (by omega) rfl).mono ?_
          rintro e w4 ⟨y, rfl, y0, y1, hs, hg⟩
          have st_w4 := (st_w3.alloc (.cells #[.int .i64 420, .int .i64 384, .int .i64 0, .int .i64 511, .int .i64 512] 3)).step hs hg
          clear hs hg st_w3
          have q1 := st_w4.cb.1.cell 1
          have f1 := st_w4.cb.1.free 1
          have q2 := st_w4.cb.1.cell 2
          have f2 := st_w4.cb.1.free 2
          have q3 := st_w4.cb.1.cell 3
          have f3 := st_w4.cb.1.free 3
          have q4 := st_w4.cb.1.cell 4
          have f4 := st_w4.cb.1.free 4
          go_wp2_with fail
          go_meet
          exact ⟨_, ((((st_w4.setA 0 (by omega) x x0 (by omega)).setA 1 (by omega) y y0 (by omega)).setA 2 (by omega) 0 (by omega) (by omega)).setA 3 (by omega) 0 (by omega) (by omega)).more (by omega)⟩
        · have t6 : (z == 6) = false := by simpa using h6
          by_cases h11 : z = 11
          · have t11 : (z == 11) = true := by simpa using h11
            clear h6 h11
            go_wp2_with fail
            refine (src_pick _ base g wr.heap.size (b + 1 + k) 4 0 512 _ 3 (0, 0) (hst.src.alloc _) (by have := HB.out; omega) (heap_alloc_new wr _) (by have := src_lt hst.src; omega) rfl (by omega) (by omega) rfl).mono ?_
            rintro e w3 ⟨x, rfl, x0, x1, hs, hg⟩
            have st_w3 := (hst.alloc (.cells #[.int .i64 493, .int .i64 511, .int .i64 448, .int .i64 512] 3)).step hs hg
            clear hs hg hst
            have q1 := st_w3.cb.1.cell 1
            have f1 := st_w3.cb.1.free 1
            go_wp2_with fail
            go_meet
            exact ⟨_, (st_w3.setA 0 (by omega) x x0 (by omega)).more (by omega)⟩
          · have t11 : (z == 11) = false := by simpa using h11
            by_cases h2 : z = 2 ∨ z = 7
            · have t27 : (z == 2) = true ∨ ((z == 2) = false ∧ (z == 7) = true) := by
                rcases h2 with h | h
                · left; simpa using h
                · right; subst h; exact ⟨rfl, rfl⟩
              clear h6 h11 h2
              rcases t27 with t2 | ⟨t2, t7⟩
              all_goals
                go_wp2_with fail
                refine (src_n _ base g (b + 1 + k) _ hst.src (by have := HB.out; omega) (by omega) (by omega)).mono ?_
                rintro e w3 ⟨x, rfl, x0, x1, hs, hg⟩
                have st_w3 := hst.step hs hg
                clear hs hg
                have q1 := st_w3.cb.1.cell 1
                have f1 := st_w3.cb.1.free 1
                go_wp2_with fail
                go_meet
                exact ⟨_, (st_w3.setA 0 (by omega) x x0 (by omega)).more (by omega)⟩
            · have t2 : (z == 2) = false := by simp; omega
              have t7 : (z == 7) = false := by simp; omega
              by_cases h20 : z = 20
              · have t20 : (z == 20) = true := by simpa using h20
                clear h6 h11 h2 h20
                go_wp2_with fail
                refine (src_range _ base g (b + 1 + k) _ _ hst.src (by have := HB.out; omega) (by omega) (by omega) (by omega)).mono ?_
                rintro e w3 ⟨x, rfl, x0, x1, hs, hg⟩
                have st_w3 := hst.step hs hg
                clear hs hg
                go_wp2_with fail
                refine (src_pick _ base g w3.heap.size (b + 1 + k + 1) 5 0 65 _ 3 (0, 0) (st_w3.src.alloc _) (by have := HB.out; omega) (heap_alloc_new w3 _) (by have := src_lt st_w3.src; omega) rfl (by omega) (by omega) rfl).mono ?_
                rintro e w4 ⟨y, rfl, y0, y1, hs, hg⟩
                have st_w4 := (st_w3.alloc (.cells #[.int .i64 9, .int .i64 0, .int .i64 64, .int .i64 65, .int .i64 9] 3)).step hs hg
                clear hs hg st_w3
                have q1 := st_w4.cb.1.cell 1
                have f1 := st_w4.cb.1.free 1
                have q2 := st_w4.cb.1.cell 2
                have f2 := st_w4.cb.1.free 2
                have q3 := st_w4.cb.1.cell 3
                have f3 := st_w4.cb.1.free 3
                have q4 := st_w4.cb.1.cell 4
                have f4 := st_w4.cb.1.free 4
                go_wp2_with fail
                go_meet
                exact ⟨_, ((((st_w4.setA 0 (by omega) x (by omega) (by omega)).setA 1 (by omega) y y0 (by omega)).setA 2 (by omega) 0 (by omega) (by omega)).setA 3 (by omega) 0 (by omega) (by omega)).more (by omega)⟩
              · have t20 : (z == 20) = false := by simpa using h20
                clear h6 h11 h2 h20
                go_wp2_with fail
                go_meet
                exact ⟨_, hst.more (by omega)⟩
      case rest =>
        obtain ⟨a2, hst2⟩ := hcut
        clear hst HST q0
        go_wp2_with fail
        go_loopw [9] (fun i wr => ∃ (k : Nat) (vp : Value) (ps : List ByteArray), k ≤ p ∧ i = .int .i64 (k : Int) ∧ ps.length = k ∧ (∀ s ∈ ps, s.size ≤ 60) ∧ OwnS wr (gc + 1) vp ps ∧ CSt w wr base g (b + 10 + 20 * k) rc gc z a2 vp (.slice none 0 0)) (fun i _ => p - (intOf i).toNat)
        case atStart => exact ⟨0, _, [], Nat.zero_le _, rfl, rfl, by simp, OwnS.nil _ _, hst2.more (by omega)⟩
        case round =>
          obtain ⟨j, vp, ps, hj, rfl, hlen, hsz, hown, hst⟩ := hrel
          have HLEN := Lib.hid hlen
          have HSZ := Lib.hid hsz
          clear hst2 hlen hsz
          by_cases hjp : j < p
          · have q5 : wr.cell? ⟨gc, 5, none⟩ = some vp := hst.cb.1.cell 5
            have hgc : gc < wr.heap.size := hst.cb.1.lt
            go_wp2_with fail
            go_region_law
              (first
                | (go_simp; go_at_call 14; refine (src_path _ base g (b + 10 + 20 * j) (by exact hst.src.drew) (by have := HB.out; omega)).mono ?_; rintro e w3 ⟨x, rfl, hxm, hs3, hg3⟩; have st3 := hst.drew.step hs3 hg3; have own3 := OwnS.only (w := wr.drew) hown hg3 (by have := hst.h1; have := hst.h2; have := hst.h3; omega); have qA : w3.cell? ⟨gc, 5, none⟩ = some vp := st3.cb.1.cell 5; have qC := (st3.alloc (.cells #[.string x] 9)).cb.1.cell 5; go_simp)
                | (refine step_append_strs (by rfl) (.tmp 75) (.tmp 78) (by rfl) (gc + 1) vp ps (by rfl) (by exact own3.alloc _) (w3.heap.size + 1) (some ⟨w3.heap.size, 0, none⟩) 1 1 [x] (by rfl) rfl (by exact one_at_new w3 x 9) (by have := HLEN.out; simp; omega) (by have := st3.cb.1.lt; simp; omega) ?_; intro v4 w4 own4 hg4 hat4; obtain ⟨g4, c4, hv4⟩ := Joins.ownsRow_form own4.out (by simp); subst hv4; have st4 := (st3.alloc (.cells #[.string x] 9)).grown hg4 (fun r hr => by have := own3.ge r hr; omega); have qB : w4.cell? ⟨gc, 5, none⟩ = some vp := st4.cb.1.cell 5; have fB := st4.cb.1.free 5))
            all_goals
              have own5 : OwnS w4 (gc + 1) (.slice (some ⟨g4, 0, none⟩) (ps.length + 1) c4) (ps ++ [x]) := by simpa using own4
              have st5 := st4.setP (.slice (some ⟨g4, 0, none⟩) (ps.length + 1) c4)
              have own6 := own5.setCell (p := ⟨gc, 5, none⟩) (by show gc < gc + 1; omega) (.slice (some ⟨g4, 0, none⟩) (ps.length + 1) c4)
              clear q5 qA qB qC fB own3 own4 own5 st3 st4 hown hst hg3 hs3 hg4 hat4
              go_wp2_with fail
              go_roundw
              case rel => exact ⟨j + 1, _, ps ++ [x], by omega, by go_num, by have := HLEN.out; simp; omega, fun s hs => by
                rcases List.mem_append.1 hs with h | h
                · exact HSZ.out s h
                · rw [List.mem_singleton.1 h]; exact hxm, own6, st5.more (by omega)⟩
              case measure => simp [intOf]; omega
          · go_wp2_with fail
            refine (src_range _ base g (b + 10 + 20 * j) _ _ hst.src (by have := HB.out; omega) (by omega) (by omega) (by omega)).mono ?_
            rintro e w5 ⟨n3, rfl, n0, n1, hs5, hg5⟩
            obtain ⟨n4, rfl⟩ := Int.eq_ofNat_of_zero_le (show 0 ≤ n3 by omega)
            have st5 := hst.step hs5 hg5
            have own5 := OwnS.only hown hg5 (by have := hst.h1; have := hst.h2; have := hst.h3; omega)
            clear hs5 hg5 hst hown
            go_wp2_with fail
            have hvp : ∀ r, vp.ownBlock = some r → r < w5.heap.size := fun r hr => (World.ownsRow.lt own5 r hr).2
            have HLP := Lib.hid (show ps.length ≤ 2 by have := HLEN.out; omega)
            have st6 := st5.more (b' := b + 60) (by omega)
            have hg5 : gc < w5.heap.size := st5.cb.1.lt
            clear HLEN st5
            go_loopw [10] (fun i wr => ∃ (k : Nat) (va : Value) (gs : List ByteArray), i = .int .i64 (k : Int) ∧ gs.length + k ≤ 4 ∧ (∀ s ∈ gs, s.size ≤ 4) ∧ OwnS wr w5.heap.size va gs ∧ OwnS wr (gc + 1) vp ps ∧ w5.heap.size ≤ wr.heap.size ∧ CSt w wr base g (b + 60 + gs.length) rc gc z a2 vp va) (fun i _ => (intOf i).toNat)
            case atStart => exact ⟨n4, _, [], rfl, by simp; omega, by simp, OwnS.nil _ _, own5, Nat.le_refl _, by simpa using st6⟩
            case round =>
              obtain ⟨i, va, gs, rfl, hlen, hsz, hown, hownp, hw5, hst⟩ := hrel
              have HSG := Lib.hid hsz
              clear st6 own5 hsz
              by_cases hi : 0 < i
              · have hi1 : (0 : Int) < (i : Int) := by omega
                have q6 : wr.cell? ⟨gc, 6, none⟩ = some va := hst.cb.1.cell 6
                have qW : (wr.alloc (.cells #[.string ⟨#[97]⟩, .string ⟨#[47, 97]⟩, .string ⟨#[98, 47, 99]⟩, .string ⟨#[104, 111, 115, 116]⟩, .string ⟨#[]⟩, .string ⟨#[46, 46, 47, 98]⟩, .string ⟨#[47]⟩, .string ⟨#[120, 32, 121]⟩] 9)).cell? ⟨gc, 6, none⟩ = some va := (hst.alloc _).cb.1.cell 6
                have hgc : gc < wr.heap.size := hst.cb.1.lt
                have hgl : g < wr.heap.size := src_lt hst.src
                go_wp2_with fail
                go_region_law
                  (first
                    | (go_simp; go_at_call 15; refine (src_word _ base g wr.heap.size (b + 60 + gs.length) 8 4 _ 9 (0, 0) (by exact (hst.src.alloc (.cells #[.string ⟨#[97]⟩, .string ⟨#[47, 97]⟩, .string ⟨#[98, 47, 99]⟩, .string ⟨#[104, 111, 115, 116]⟩, .string ⟨#[]⟩, .string ⟨#[46, 46, 47, 98]⟩, .string ⟨#[47]⟩, .string ⟨#[120, 32, 121]⟩] 9)).drew) (by have := HB.out; omega) (by exact heap_alloc_new wr (.cells #[.string ⟨#[97]⟩, .string ⟨#[47, 97]⟩, .string ⟨#[98, 47, 99]⟩, .string ⟨#[104, 111, 115, 116]⟩, .string ⟨#[]⟩, .string ⟨#[46, 46, 47, 98]⟩, .string ⟨#[47]⟩, .string ⟨#[120, 32, 121]⟩] 9)) (by omega) rfl (by omega) (by omega) rfl).mono ?_; rintro e w3 ⟨x, rfl, hxm, hs3, hg3⟩; have st3 := (hst.alloc (.cells #[.string ⟨#[97]⟩, .string ⟨#[47, 97]⟩, .string ⟨#[98, 47, 99]⟩, .string ⟨#[104, 111, 115, 116]⟩, .string ⟨#[]⟩, .string ⟨#[46, 46, 47, 98]⟩, .string ⟨#[47]⟩, .string ⟨#[120, 32, 121]⟩] 9)).drew.step hs3 hg3; have own3 := OwnS.only (w := (wr.alloc (.cells #[.string ⟨#[97]⟩, .string ⟨#[47, 97]⟩, .string ⟨#[98, 47, 99]⟩, .string ⟨#[104, 111, 115, 116]⟩, .string ⟨#[]⟩, .string ⟨#[46, 46, 47, 98]⟩, .string ⟨#[47]⟩, .string ⟨#[120, 32, 121]⟩] 9)).drew) (hown.alloc _) hg3 (by have := hst.h1; have := hst.h2; have := hst.h3; omega); have ownp3 := OwnS.only (w := (wr.alloc (.cells #[.string ⟨#[97]⟩, .string ⟨#[47, 97]⟩, .string ⟨#[98, 47, 99]⟩, .string ⟨#[104, 111, 115, 116]⟩, .string ⟨#[]⟩, .string ⟨#[46, 46, 47, 98]⟩, .string ⟨#[47]⟩, .string ⟨#[120, 32, 121]⟩] 9)).drew) (hownp.alloc _) hg3 (by have := hst.h1; have := hst.h2; have := hst.h3; omega); have qA : w3.cell? ⟨gc, 6, none⟩ = some va := st3.cb.1.cell 6; have qC := (st3.alloc (.cells #[.string x] 9)).cb.1.cell 6; go_simp)
                    | (refine step_append_strs (by rfl) (.tmp 90) (.tmp 94) (by rfl) w5.heap.size va gs (by rfl) (by exact own3.alloc _) (w3.heap.size + 1) (some ⟨w3.heap.size, 0, none⟩) 1 1 [x] (by rfl) rfl (by exact one_at_new w3 x 9) (by simp; omega) (by have h3 := hg3.size; simp at h3 ⊢; omega) ?_; intro v4 w4 own4 hg4 hat4; obtain ⟨g4, c4, hv4⟩ := Joins.ownsRow_form own4.out (by simp); subst hv4; have st4 := (st3.alloc (.cells #[.string x] 9)).grown hg4 (fun r hr => by have := own3.ge r hr; omega); have ownp4 := (ownp3.alloc (.cells #[.string x] 9)).far hg4 (fun r hr e => by have := hvp r hr; have := own3.ge r e; omega); have qB : w4.cell? ⟨gc, 6, none⟩ = some va := st4.cb.1.cell 6; have fB := st4.cb.1.free 6))
                all_goals
                  have own5 : OwnS w4 w5.heap.size (.slice (some ⟨g4, 0, none⟩) (gs.length + 1) c4) (gs ++ [x]) := by simpa using own4
                  have st5 := st4.setG (.slice (some ⟨g4, 0, none⟩) (gs.length + 1) c4)
                  have own6 := own5.setCell (p := ⟨gc, 6, none⟩) (by show gc < w5.heap.size; omega) (.slice (some ⟨g4, 0, none⟩) (gs.length + 1) c4)
                  have ownp6 := ownp4.setCell (p := ⟨gc, 6, none⟩) (by show gc < gc + 1; omega) (.slice (some ⟨g4, 0, none⟩) (gs.length + 1) c4)
                  have hw6 : w5.heap.size ≤ (w4.setCell ⟨gc, 6, none⟩ (.slice (some ⟨g4, 0, none⟩) (gs.length + 1) c4)).heap.size := by
                    have h3 := hg3.size
                    have h4 := hg4.size
                    simp at h3 h4 ⊢
                    omega
                  clear q6 qW qA qB qC fB own3 own4 own5 ownp3 ownp4 st3 st4 hown hownp hst hg3 hs3 hg4 hat4
                  go_wp2_with fail
                  go_roundw
                  case rel => exact ⟨i - 1, _, gs ++ [x], by go_num, by simp; omega, fun s hs => by
                    rcases List.mem_append.1 hs with h | h
                    · exact HSG.out s h
                    · rw [List.mem_singleton.1 h]; exact hxm, own6, ownp6, hw6, st5.more (by simp; omega)⟩
                  case measure => simp [intOf]; omega
              · go_wp2_with fail
                refine (src_n _ base g (b + 60 + gs.length) _ hst.src (by have := HB.out; omega) (by omega) (by omega)).mono ?_
                rintro e w6 ⟨x, rfl, x0, x1, hs6, hg6⟩
                have st6 := hst.step hs6 hg6
                have own6 := OwnS.only hown hg6 (by have := hst.h1; have := hst.h2; have := hst.h3; omega)
                have ownp6 := OwnS.only hownp hg6 (by have := hst.h1; have := hst.h2; have := hst.h3; omega)
                clear hs6 hg6 hst hown hownp
                obtain ⟨Ap, np, cp, rfl⟩ := slice_form ownp6
                obtain ⟨Ag, ng, cg, rfl⟩ := slice_form own6
                go_upto_if 99 with (fail)
                go_cut [] (fun wx => ∃ (z3 : Int) (a3 : Nat → Int), -1 ≤ z3 ∧ z3 ≤ 33 ∧ OwnS wx w5.heap.size (.slice Ag ng cg) gs ∧ OwnS wx (gc + 1) (.slice Ap np cp) ps ∧ CSt w wx base g (b + 100) rc gc z3 a3 (.slice Ap np cp) (.slice Ag ng cg))
                case first =>
                  by_cases h39 : x = 39
                  · have t39 : (x == 39) = true := by simpa using h39
                    clear h39
                    go_wp2_with fail
                    refine (src_n _ base g (b + 60 + gs.length + 1) _ st6.src (by have := HB.out; omega) (by omega) (by omega)).mono ?_
                    rintro e w7 ⟨y, rfl, y0, y1, hs7, hg7⟩
                    have st7 := st6.step hs7 hg7
                    have own7 := OwnS.only own6 hg7 (by have := st6.h1; have := st6.h2; have := st6.h3; omega)
                    have ownp7 := OwnS.only ownp6 hg7 (by have := st6.h1; have := st6.h2; have := st6.h3; omega)
                    clear hs7 hg7 st6 own6 ownp6
                    go_wp2_with fail
                    refine (src_range _ base g (b + 60 + gs.length + 1 + 1) _ _ st7.src (by have := HB.out; omega) (by omega) (by omega) (by omega)).mono ?_
                    rintro e w8 ⟨z2, rfl, z20, z21, hs8, hg8⟩
                    have st8 := st7.step hs8 hg8
                    have own8 := OwnS.only own7 hg8 (by have := st7.h1; have := st7.h2; have := st7.h3; omega)
                    have ownp8 := OwnS.only ownp7 hg8 (by have := st7.h1; have := st7.h2; have := st7.h3; omega)
                    clear hs8 hg8 st7 own7 ownp7
                    have stE := (st8.setA 3 (by omega) y y0 (by omega)).setZ z2
                    have ownE := (own8.setCell (p := ⟨gc, 1 + 3, none⟩) (by show gc < w5.heap.size; omega) (.int .i64 y)).setCell (p := ⟨gc, 0, none⟩) (by show gc < w5.heap.size; omega) (.int .i64 z2)
                    have ownpE := (ownp8.setCell (p := ⟨gc, 1 + 3, none⟩) (by show gc < gc + 1; omega) (.int .i64 y)).setCell (p := ⟨gc, 0, none⟩) (by show gc < gc + 1; omega) (.int .i64 z2)
                    have d0 := st8.cb.1.cell 0
                    have e0 := st8.cb.1.free 0
                    have d4 := st8.cb.1.cell 4
                    have e4 := st8.cb.1.free 4
                    clear st8 own8 ownp8
                    go_wp2_with fail
                    go_meet
                    exact ⟨z2, _, by omega, by omega, ownE, ownpE, stE.more (by omega)⟩
                  · have t39 : (x == 39) = false := by simpa using h39
                    clear h39
                    go_wp2_with fail
                    go_meet
                    exact ⟨z, _, by omega, by omega, own6, ownp6, st6.more (by omega)⟩
                case rest =>
                  obtain ⟨z3, a3, hz30, hz31, ownF, ownpF, stF⟩ := hcut
                  clear st6 own6 ownp6
                  have r0 := stF.rb.cell 0
                  have fr0 := stF.rb.free 0
                  have c0 := stF.cb.1.cell 0
                  have r1 := stF.rb.cell 1
                  have fr1 := stF.rb.free 1
                  have c1 := stF.cb.1.cell 1
                  have r2 := stF.rb.cell 2
                  have fr2 := stF.rb.free 2
                  have c2 := stF.cb.1.cell 2
                  have r3 := stF.rb.cell 3
                  have fr3 := stF.rb.free 3
                  have c3 := stF.cb.1.cell 3
                  have r4 := stF.rb.cell 4
                  have fr4 := stF.rb.free 4
                  have c4 := stF.cb.1.cell 4
                  have r5 := stF.rb.cell 5
                  have fr5 := stF.rb.free 5
                  have c5 := stF.cb.1.cell 5
                  have r6 := stF.rb.cell 6
                  have fr6 := stF.rb.free 6
                  have c6 := stF.cb.1.cell 6
                  go_wp2_with fail
                  refine bodyPost_ret (call_ret Tryz.func5 rfl _ _ rc _ rfl (((((((stF.rb.put 0 (.int .i64 z3)).put 1 (.int .i64 (a3 0))).put 2 (.int .i64 (a3 1))).put 3 (.int .i64 (a3 2))).put 4 (.int .i64 (a3 3))).put 5 (.slice Ap np cp)).put 6 (.slice Ag ng cg)) rfl) rfl ?_
                  exact ⟨z3, a3, _, _, ps, gs, rfl, by omega, stF.cb.2, HLP.out, by omega, HSZ.out, HSG.out, (((((((ownpF.setCell (p := ⟨rc, 0, none⟩) (by show rc < gc + 1; omega) (.int .i64 z3)).setCell (p := ⟨rc, 1, none⟩) (by show rc < gc + 1; omega) (.int .i64 (a3 0))).setCell (p := ⟨rc, 2, none⟩) (by show rc < gc + 1; omega) (.int .i64 (a3 1))).setCell (p := ⟨rc, 3, none⟩) (by show rc < gc + 1; omega) (.int .i64 (a3 2))).setCell (p := ⟨rc, 4, none⟩) (by show rc < gc + 1; omega) (.int .i64 (a3 3))).setCell (p := ⟨rc, 5, none⟩) (by show rc < gc + 1; omega) (.slice Ap np cp)).setCell (p := ⟨rc, 6, none⟩) (by show rc < gc + 1; omega) (.slice Ag ng cg)).mono (by have := stF.h1; have := stF.h2; omega), (((((((ownF.setCell (p := ⟨rc, 0, none⟩) (by show rc < w5.heap.size; omega) (.int .i64 z3)).setCell (p := ⟨rc, 1, none⟩) (by show rc < w5.heap.size; omega) (.int .i64 (a3 0))).setCell (p := ⟨rc, 2, none⟩) (by show rc < w5.heap.size; omega) (.int .i64 (a3 1))).setCell (p := ⟨rc, 3, none⟩) (by show rc < w5.heap.size; omega) (.int .i64 (a3 2))).setCell (p := ⟨rc, 4, none⟩) (by show rc < w5.heap.size; omega) (.int .i64 (a3 3))).setCell (p := ⟨rc, 5, none⟩) (by show rc < w5.heap.size; omega) (.slice Ap np cp)).setCell (p := ⟨rc, 6, none⟩) (by show rc < w5.heap.size; omega) (.slice Ag ng cg)).mono (by have := stF.h1; have := stF.h2; omega), (((((((stF.src.setCell (p := ⟨rc, 0, none⟩) (by show base ≤ rc; omega) (by show rc ≠ g; omega) (.int .i64 z3)).setCell (p := ⟨rc, 1, none⟩) (by show base ≤ rc; omega) (by show rc ≠ g; omega) (.int .i64 (a3 0))).setCell (p := ⟨rc, 2, none⟩) (by show base ≤ rc; omega) (by show rc ≠ g; omega) (.int .i64 (a3 1))).setCell (p := ⟨rc, 3, none⟩) (by show base ≤ rc; omega) (by show rc ≠ g; omega) (.int .i64 (a3 2))).setCell (p := ⟨rc, 4, none⟩) (by show base ≤ rc; omega) (by show rc ≠ g; omega) (.int .i64 (a3 3))).setCell (p := ⟨rc, 5, none⟩) (by show base ≤ rc; omega) (by show rc ≠ g; omega) (.slice Ap np cp)).setCell (p := ⟨rc, 6, none⟩) (by show base ≤ rc; omega) (by show rc ≠ g; omega) (.slice Ag ng cg)).more (by omega), (only_setCell (only_setCell (only_setCell (only_setCell (only_setCell (only_setCell (only_setCell stF.only (p := ⟨rc, 0, none⟩) (.inr stF.h1) (.int .i64 z3)) (p := ⟨rc, 1, none⟩) (.inr stF.h1) (.int .i64 (a3 0))) (p := ⟨rc, 2, none⟩) (.inr stF.h1) (.int .i64 (a3 1))) (p := ⟨rc, 3, none⟩) (.inr stF.h1) (.int .i64 (a3 2))) (p := ⟨rc, 4, none⟩) (.inr stF.h1) (.int .i64 (a3 3))) (p := ⟨rc, 5, none⟩) (.inr stF.h1) (.slice Ap np cp)) (p := ⟨rc, 6, none⟩) (.inr stF.h1) (.slice Ag ng cg))⟩
end Go.Proofs.YtokkbboahajbhaaGreatDoor
/- Copy of the reference. -/
namespace Go.Proofs.YtokkbboahajbhaaGreatDoor
open Go.RowKit
/-- A call whose lists are its own, in different blocks. -/
def CopyPost (z : Int) (a : Nat → Int) (ps gs : List ByteArray) (w : World) (e : Ending) (w' : World) : Prop := ∃ vp va : Value, e = .returned (.agg #[.int .i64 z, .int .i64 (a 0), .int .i64 (a 1), .int .i64 (a 2), .int .i64 (a 3), vp, va]) ∧ OwnS w' w.heap.size vp ps ∧ OwnS w' w.heap.size va gs ∧ (∀ r, vp.ownBlock = some r → va.ownBlock ≠ some r) ∧ Below w.heap.size w w'
theorem Blk.grown2 {w w' : World} {g : Nat} {t : TypeId} {cs : Array Value} (h : Blk w g t cs) {row : Option Nat} (hg : w.grownBy w' row) (hr : ∀ r, row = some r → g < r) : Blk w' g t cs := h.grown hg (fun e => by have := hr g e; omega)
end Go.Proofs.YtokkbboahajbhaaGreatDoor
/- reads, and the walks of the laws CallParses and CallBack. -/
namespace Go.Proofs.YtokkbboahajbhaaGreatDoor
open Go.RowKit
theorem callE_sizes {z : Int} {a : Nat → Int} {ps gs : List ByteArray} (h : callE z a ps gs = 0) : ps.length ≤ 1000 ∧ gs.length ≤ 1000 := by
  obtain ⟨c1, c2, c3, c4, c5, c6⟩ := callE_zero h
  have := rowI_small z
  omega
theorem CIs.lens {s : ByteArray} {z : Int} {a : Nat → Int} {ps gs : List ByteArray} {er : Int} (h : CIs s z a ps gs er) : ps.length ≤ 1000 ∧ gs.length ≤ 1000 := by
  rcases h with ⟨_, h, _⟩ | ⟨_, _, _, rfl, rfl, _⟩
  · exact callE_sizes h
  · simp
attribute [local irreducible] rowI rowC numC numS unqS unqE callS callE rdN
set_option maxRecDepth 100000 in
set_option maxHeartbeats 8000000 in
theorem reads10 (s : ByteArray) (hs : s.size ≤ 100000) (w : World) (he : Env w) (hc : Calls10 w) :
    Calls Tryz.prog 10 #[.string s] w fun e w' => e = .returned (.bool true) ∧ Below w.heap.size w w' := by
  have HV := Lib.hid (vparse10 s hs w he hc)
  clear he hc
  go_enter Tryz.func10, Tryz.ntmps10
  go_wp2_with fail
  refine HV.out.mono ?_
  rintro e w1 ⟨z, a, vp, va, ps, gs, er, rfl, hC, hop, hog, hb1⟩
  obtain ⟨P, cp, e1, hP⟩ := hop.strs
  obtain ⟨A, ca, e2, hA⟩ := hog.strs
  subst e1 e2
  have HC := Lib.hid hC
  have HP := Lib.hid hP
  have HA := Lib.hid hA
  clear HV hC hop hog hP hA
  go_wp2_with fail
  have hal1 : Below w1.heap.size w1 (w1.alloc (.cells (cellsCall z a (.slice P ps.length cp) (.slice A gs.length ca)) 28)) := (Below.refl _ _).alloc (Nat.le_refl _) _
  have C1 := Blk.new w1 (cellsCall z a (.slice P ps.length cp) (.slice A gs.length ca)) 28
  refine (rparse10 s hs _).mono ?_
  rintro e w3 ⟨z', a', vp', va', ps', gs', er', rfl, hC', hop', hog', hb3⟩
  obtain ⟨P', cp', e1, hP'⟩ := hop'.strs
  obtain ⟨A', ca', e2, hA'⟩ := hog'.strs
  subst e1 e2
  obtain ⟨e5, heq⟩ := HC.out.unique hC'
  subst e5
  have l1 := HC.out.lens
  have l2 := hC'.lens
  have HEQ := Lib.hid heq
  have b3 := below_then hal1 hb3
  have hal3 : Below w3.heap.size w3 (w3.alloc (.cells (cellsCall z' a' (.slice P' ps'.length cp') (.slice A' gs'.length ca')) 28)) := (Below.refl _ _).alloc (Nat.le_refl _) _
  have b4 := below_then b3 hal3
  have C4 := (C1.below hb3).below hal3
  have D4 := Blk.new w3 (cellsCall z' a' (.slice P' ps'.length cp') (.slice A' gs'.length ca')) 28
  have HSM := Lib.hid (rsameC z z' a a' P P' cp cp' A A' ca ca' ps gs ps' gs' (w3.alloc (.cells (cellsCall z' a' (.slice P' ps'.length cp') (.slice A' gs'.length ca')) 28)) (w3.alloc (.cells (cellsCall z' a' (.slice P' ps'.length cp') (.slice A' gs'.length ca')) 28)).heap.size (Nat.le_refl _) ((HP.out.keep b4 (Nat.le_refl _)).more b4.size) ((HA.out.keep b4 (Nat.le_refl _)).more b4.size) ((hP'.keep hal3 (Nat.le_refl _)).more hal3.size) ((hA'.keep hal3 (Nat.le_refl _)).more hal3.size) l1.1 l1.2 l2.1 l2.2)
  clear hC' hop' hog' hP' hA' heq C1 hal1 hb3 b3 hal3 l1 l2
  have q0 := C4.cell 0
  have q1 := C4.cell 1
  have q2 := C4.cell 2
  have q3 := C4.cell 3
  have q4 := C4.cell 4
  have q5 := C4.cell 5
  have q6 := C4.cell 6
  have r0 := D4.cell 0
  have r1 := D4.cell 1
  have r2 := D4.cell 2
  have r3 := D4.cell 3
  have r4 := D4.cell 4
  have r5 := D4.cell 5
  have r6 := D4.cell 6
  go_wp2_with fail
  refine HSM.out.mono ?_
  rintro e w5 ⟨r, rfl, hr, hb5⟩
  obtain rfl : r = true := hr.2 HEQ.out
  clear hr
  go_wp2_with fail
  go_ret
  exact ⟨rfl, below_then (below_then hb1 b4) hb5⟩
end Go.Proofs.YtokkbboahajbhaaGreatDoor
/- The walk of the law CallBuilt. -/
namespace Go.Proofs.YtokkbboahajbhaaGreatDoor
open Go.RowKit
theorem catW_ge : ∀ (ts : List ByteArray) (s : ByteArray), s.size ≤ (catW s ts).size
  | [], s => by simp [catW]
  | t :: ts, s => by
    have := catW_ge ts (s ++ (⟨#[32]⟩ ++ t))
    have e : catW s (t :: ts) = catW (s ++ (⟨#[32]⟩ ++ t)) ts := by first | rfl | simp [catW]
    rw [e]
    rw [ByteArray.size_append] at this
    omega
theorem callS_small {z : Int} {a : Nat → Int} {ps gs : List ByteArray} (h : callE z a ps gs = 0) (hi : I64A a) : 1 ≤ (callS z a ps gs).size ∧ (callS z a ps gs).size ≤ 10000 := by
  obtain ⟨c1, c2, c3, c4, c5, c6⟩ := callE_zero h
  have hsm := rowI_small z
  unfold callS
  rw [if_pos h]
  have := catW_size 300 (numsW (rowI z).nums a ++ (ps ++ gs).map quoteS) (rowI z).name (fun s hs => by
    rcases List.mem_append.1 hs with h | h
    · have := numsW_size (m := (rowI z).nums) (a := a) (fun j hj => hi j (by omega)) s h; omega
    · obtain ⟨y, hy, rfl⟩ := List.mem_map.1 h
      have h1 : y.size ≤ 128 := by
        rcases List.mem_append.1 hy with h | h
        · exact c5 y h
        · have := c6 y h; omega
      have := quoteS_le y (by omega); omega)
  have hl : (numsW (rowI z).nums a ++ (ps ++ gs).map quoteS).length ≤ 10 := by simp [numsW_len]; omega
  have h3 : (numsW (rowI z).nums a ++ (ps ++ gs).map quoteS).length * (300 + 1) ≤ 10 * (300 + 1) := Nat.mul_le_mul_right _ hl
  have h4 := catW_ge (numsW (rowI z).nums a ++ (ps ++ gs).map quoteS) (rowI z).name
  have h5 : (rowI z).name.size ≠ 0 := by
    have H : ∀ k : Fin 22, (rowC k).name.size ≠ 0 := by decide +kernel
    rw [rowI_toNat c1]
    exact H ⟨z.toNat, by omega⟩
  omega
theorem sz2 {a b : ByteArray} (ha : a.size ≤ 10000) (hb : b.size ≤ 10000) : (a ++ b).size ≤ 100000 := by rw [ByteArray.size_append]; omega
theorem sz3 {a b c : ByteArray} (ha : a.size ≤ 10000) (hb : b.size ≤ 10000) (hc : c.size ≤ 10000) : (a ++ b ++ c).size ≤ 100000 := by rw [ByteArray.size_append, ByteArray.size_append]; omega
theorem sze (t : ByteArray) (i j : Nat) (ht : t.size ≤ 10000) : (t.extract i j).size ≤ 10000 := by rw [ByteArray.size_extract]; omega
theorem below_al {w W : World} {o : Obj} (h : Below w.heap.size w W) : Below w.heap.size w (W.alloc o) := h.alloc h.size _
theorem hold_al {w W : World} {o : Obj} (h : Below w.heap.size w W ∧ w.heap.size ≤ W.heap.size) : Below w.heap.size w (W.alloc o) ∧ w.heap.size ≤ (W.alloc o).heap.size := ⟨below_al h.1, (below_al h.1).size⟩
theorem hold_then {w W W' : World} (h : Below w.heap.size w W ∧ w.heap.size ≤ W.heap.size) (hb : Below W.heap.size W W') : Below w.heap.size w W' ∧ w.heap.size ≤ W'.heap.size := ⟨below_then h.1 hb, (below_then h.1 hb).size⟩
attribute [local irreducible] rowI rowC numC numS unqS unqE callS callE rdN
attribute [local go_sem ↓] Go.wp_at_zero Go.wp_at_succ
set_option maxRecDepth 100000 in
set_option maxHeartbeats 16000000 in
theorem callBuilt_walk (w : World) (A : Option Addr) (n c : Nat) (by' : UInt8) (hn : (n : Int) ≤ 9223372036854775807)
    (hl : ∀ k, k < n → ∃ (ad : Addr) (z : Int), A = some ad ∧ ad.block < w.heap.size ∧ w.cell? (ad.add k) = some (.int .i64 z) ∧ -9223372036854775808 ≤ z ∧ z ≤ 9223372036854775807) (he : Env w) (hc : Calls10 w) :
    Calls Tryz.prog 3 #[.slice A n c, bv by'] w fun e w' => e = .returned (.bool true) ∧ Below w.heap.size w w' := by
  have HL := Lib.hid hl
  have HN := Lib.hid hn
  have HE := Lib.hid (fun (W : World) (h : Below w.heap.size w W) => he.below h)
  have HC := Lib.hid (fun (W : World) (h : Below w.heap.size w W) => hc.below h (Nat.le_refl _))
  have HAW := Lib.hid (fun (W : World) (h : Below w.heap.size w W) => awake10 W (HC.out _ h) (HE.out _ h).tab (HE.out _ h).pow)
  have HRD := Lib.hid (fun (W : World) (h : Below w.heap.size w W) (s : ByteArray) (hs : s.size ≤ 100000) => reads10 s hs W (HE.out _ h) (HC.out _ h))
  clear hl hn he hc
  go_enter Tryz.func3, Tryz.ntmps3
  go_wp2_with fail
  refine (src_new w A n c HN.out HL.out).mono ?_
  rintro e w1 ⟨rfl, hs1, hb1⟩
  have HS1 := Lib.hid hs1
  have hlt1 : w.heap.size < w1.heap.size := src_lt hs1
  clear hs1 HL HN
  go_wp2_with fail
  refine (src_call _ w.heap.size w.heap.size 0 HS1.out (by omega)).mono ?_
  rintro e w2 ⟨z, a, vp, va, ps, gs, rfl, hz, ha, l1, l2, z1, z2, o1, o2, hs2, hg2⟩
  have hb2 : Below w.heap.size w w2 := below_only hb1 hg2 (by omega) (Nat.le_refl _)
  have HS2 := Lib.hid hs2
  obtain ⟨P, cp, e1, hP⟩ := o1.strs
  obtain ⟨A', ca, e2, hA⟩ := o2.strs
  subst e1 e2
  clear hs2
  go_wp2_with fail
  have hi : I64A a := fun j hj => by have := ha j hj; unfold I64; omega
  have hal2 : Below w2.heap.size w2 (w2.alloc (.cells (cellsCall z a (.slice P ps.length cp) (.slice A' gs.length ca)) 28)) := (Below.refl _ _).alloc (Nat.le_refl _) _
  have C3 := Blk.new w2 (cellsCall z a (.slice P ps.length cp) (.slice A' gs.length ca)) 28
  have b3 := below_then hb2 hal2
  have HP3 := Lib.hid ((hP.keep hal2 (Nat.le_refl _)).more hal2.size)
  have HA3 := Lib.hid ((hA.keep hal2 (Nat.le_refl _)).more hal2.size)
  have HS3 := Lib.hid (HS2.out.below hal2)
  clear hg2 hb2 HS1 hb1 o1 o2 hP hA hal2 HS2
  generalize w2.alloc (.cells (cellsCall z a (.slice P ps.length cp) (.slice A' gs.length ca)) 28) = w3 at *
  have HAG := Lib.hid (agrees10 z a P cp A' ca ps gs w3 w3.heap.size (Nat.le_refl _) HP3.out HA3.out (by omega) (by omega) (fun s hs => by have := z1 s hs; unfold maxLen; omega) (fun s hs => by have := z2 s hs; unfold maxLen; omega) hi (HC.out _ b3) (HE.out _ b3).tab (HE.out _ b3).pow)
  have HRF := Lib.hid (fun (W : World) (h : Below w3.heap.size w3 W) => rformat10 z a P cp A' ca ps gs W w3.heap.size h.size (HP3.out.keep h (Nat.le_refl _)) (HA3.out.keep h (Nat.le_refl _)) (by omega) (by omega) (fun s hs => by have := z1 s hs; unfold maxLen; omega) (fun s hs => by have := z2 s hs; unfold maxLen; omega) hi)
  have HI := Lib.hid hi
  clear hi ha z1 z2 hz
  refine HAG.out.mono ?_
  rintro e w4 ⟨rfl, hb4⟩
  have C4 := C3.below hb4
  clear HAG C3
  have q0 := C4.cell 0
  have q1 := C4.cell 1
  have q2 := C4.cell 2
  have q3 := C4.cell 3
  have q4 := C4.cell 4
  have q5 := C4.cell 5
  have q6 := C4.cell 6
  go_wp2_with fail
  refine (HRF.out _ hb4).mono ?_
  rintro e w5 ⟨rfl, hb5⟩
  have k5 := below_then hb4 hb5
  have b5 := below_then b3 k5
  have HS5 := Lib.hid (HS3.out.below k5)
  clear q0 q1 q2 q3 q4 q5 q6 C4 hb4 hb5 HRF k5 HS3
  by_cases h0 : callE z a ps gs = 0
  · obtain ⟨ht1, ht2⟩ := callS_small h0 HI.out
    rw [h0]
    clear h0 HI
    generalize callS z a ps gs = t at *
    go_wp2_with fail
    refine (src_n _ w.heap.size w.heap.size (0 + 200) _ HS5.out (by omega) (by omega) (by omega)).mono ?_
    rintro e w6 ⟨x, rfl, x0, x1, hs6, hg6⟩
    obtain ⟨k, rfl⟩ := Int.eq_ofNat_of_zero_le x0
    have hk : k < t.size := by omega
    have b6 : Below w.heap.size w w6 := below_only b5 hg6 (by have := b5.size; omega) (Nat.le_refl _)
    clear hs6 hg6 x0 x1 HS5 b5 b3
    have a1 : (0 : Int) ≤ (k : Int) := by omega
    have a2 : (k : Int) ≤ (t.size : Int) := by omega
    have a3 : IntKind.i64.wrap ((k : Int) + 1) = (k : Int) + 1 := IntWalk.i64_in _ (by omega)
    have a4 : (k : Int) + 1 ≤ (t.size : Int) := by omega
    have a5 : (0 : Int) ≤ (k : Int) + 1 := by omega
    have a6 : ((k : Int) + 1).toNat = k + 1 := by omega
    have hmn : min k t.size = k := by omega
    have f1 : ¬ 9223372036854775807 < k + 1 := by omega
    have f2 : ¬ 9223372036854775807 < k + 1 + (t.size - (k + 1)) := by omega
    have f3 : ¬ 9223372036854775807 < k + (t.size - (k + 1)) := by omega
    have f4 : ¬ 9223372036854775807 < k + 1 + (t.size - k) := by omega
    have f5 : ¬ 9223372036854775807 < t.size + 2 := by omega
    have hcv : ∀ W : World, (convert 37 9 (.slice (some ⟨W.heap.size, 0, none⟩) 1 1)).run Tryz.prog (W.alloc (.cells #[bv by'] 5)) = .ok (.string ⟨#[by']⟩) (W.alloc (.cells #[bv by'] 5)) := fun W =>
      run_convert_bytes_back _ 37 9 5 ⟨W.heap.size, 0, none⟩ 1 [by'] Tryz.underlying37 Tryz.underlying5 Tryz.underlying9 (fun j hj => by
        have : j = 0 := by simpa using hj
        subst this
        exact cell_one_new _ _ _ 0 _ rfl)
    go_wp2_with fail
    go_region_held (fun w' => Below w.heap.size w w' ∧ w.heap.size ≤ w'.heap.size)
      (first | assumption | exact ⟨b6.drew, b6.size⟩ | exact hold_al (by assumption) | exact hold_then (by assumption) hb)
      (first | (go_at_call 10; refine (HRD.out _ (And.left (by assumption)) _ (by first | omega | exact sz3 (sze _ _ _ ht2) (by first | decide | (show 1 ≤ 10000; omega)) (sze _ _ _ ht2) | exact sz2 (sze _ _ _ ht2) (sze _ _ _ ht2) | exact sz2 ht2 (by decide))).mono ?_; rintro e w9 ⟨rfl, hb⟩) | (go_at_call 8; refine (HAW.out _ (And.left (by assumption))).mono ?_; rintro e w9 ⟨rfl, hb⟩))
    all_goals
      go_wp2_with fail
      go_ret
      exact ⟨rfl, And.left (by assumption)⟩
  · have t0 : (callE z a ps gs != 0) = true := by simpa using h0
    clear h0
    go_wp2_with fail
    refine (HAW.out _ b5).mono ?_
    rintro e w8 ⟨rfl, hb8⟩
    go_wp2_with fail
    go_ret
    exact ⟨rfl, below_then b5 hb8⟩
end Go.Proofs.YtokkbboahajbhaaGreatDoor
/- Listed variables: arrays of strings, arrays of rows. -/
namespace Go.Proofs.YtokkbboahajbhaaGreatDoor
open Go.ChangeShapes Go.WideShapes Go.RowKit Go.Joins Go.Deep
theorem chunks {α : Type} {c : Nat} : ∀ {L : List (List α)} {cs : List α}, cs.length = L.length * c → (∀ i (hi : i < L.length), (cs.drop (i * c)).take c = L[i]) → cs = L.flatten
  | [], cs, h, _ => by simp at h; simp [h]
  | x :: L, cs, h, hi => by
    have h0 := hi 0 (by simp)
    simp at h0
    have hr : cs.drop c = L.flatten := chunks (c := c) (by rw [List.length_drop, h, List.length_cons, Nat.add_mul]; omega) (fun i hlt => by
      have := hi (i + 1) (by simp; omega)
      rw [List.drop_drop, show c + i * c = (i + 1) * c by rw [Nat.add_mul]; omega]
      simpa using this)
    rw [List.flatten_cons, ← hr, ← h0, List.take_append_drop]
section
variable {H : Type} {enc : TypeId × Value → H} {P : Program} {w : World} {base : Nat} {sp : Nat → Bool} {held : Bool}
theorem one_at {cs : List Value} {j : Nat} {v : Value} (h : (cs.drop j).take 1 = [v]) : cs[j]? = some v := by
  have := congrArg (·[0]?) h
  simpa [List.getElem?_take, List.getElem?_drop] using this
/-- A struct of a string and four integers, out of its datum. -/
theorem row5_cells {fuel : Nat} {t : TypeId} {f0 f1 f2 f3 f4 : Field} {k : IntKind} {cs : List Value} {l : List UInt8} {a b c d : Int} {p : List MemPlace} (hs : P.underlying t = some (.struct #[f0, f1, f2, f3, f4])) (hone : oneCellFields P #[f0, f1, f2, f3, f4] = true) (hC : P.cellsOf t = 5)
    (h0 : P.underlying f0.type = some .string) (h1 : P.underlying f1.type = some (.int k)) (h2 : P.underlying f2.type = some (.int k)) (h3 : P.underlying f3.type = some (.int k)) (h4 : P.underlying f4.type = some (.int k))
    (h : DataW.trod enc P w base sp held fuel t cs = some (.agg [.lit (.string l), .lit (.int k a), .lit (.int k b), .lit (.int k c), .lit (.int k d)], p)) : cs = [.string ⟨l.toArray⟩, .int k a, .int k b, .int k c, .int k d] := by
  obtain ⟨xs, n, _, hx, hl, hlen, hg⟩ := DataW.trod_struct hs h
  obtain ⟨o0, k0⟩ := hone_of hone 0 f0 rfl
  obtain ⟨o1, k1⟩ := hone_of hone 1 f1 rfl
  obtain ⟨o2, k2⟩ := hone_of hone 2 f2 rfl
  obtain ⟨o3, k3⟩ := hone_of hone 3 f3 rfl
  obtain ⟨o4, k4⟩ := hone_of hone 4 f4 rfl
  match xs, hlen with
  | [y0, y1, y2, y3, y4], _ =>
    simp only [Prod.mk.injEq] at hx
    have hx1 := hx.1
    simp at hx1
    obtain ⟨e0, e1, e2, e3, e4⟩ := hx1
    have g0 := hg 0 f0 rfl
    have g1 := hg 1 f1 rfl
    have g2 := hg 2 f2 rfl
    have g3 := hg 3 f3 rfl
    have g4 := hg 4 f4 rfl
    rw [o0, k0] at g0
    rw [o1, k1] at g1
    rw [o2, k2] at g2
    rw [o3, k3] at g3
    rw [o4, k4] at g4
    simp only [List.getElem?_cons_zero, List.getElem?_cons_succ] at g0 g1 g2 g3 g4
    obtain ⟨s, c0, z0, _⟩ := DataW.trod_string h0 g0
    obtain ⟨n1, c1, z1, _⟩ := DataW.trod_int h1 g1
    obtain ⟨n2, c2, z2, _⟩ := DataW.trod_int h2 g2
    obtain ⟨n3, c3, z3, _⟩ := DataW.trod_int h3 g3
    obtain ⟨n4, c4, z4, _⟩ := DataW.trod_int h4 g4
    rw [z0] at e0; rw [z1] at e1; rw [z2] at e2; rw [z3] at e3; rw [z4] at e4
    simp at e0 e1 e2 e3 e4
    have q0 := one_at c0
    have q1 := one_at c1
    have q2 := one_at c2
    have q3 := one_at c3
    have q4 := one_at c4
    subst e1 e2 e3 e4
    have es : s = ⟨l.toArray⟩ := by rw [e0]
    subst es
    match cs, hl.trans hC with
    | [x0, x1, x2, x3, x4], _ =>
      simp at q0 q1 q2 q3 q4
      rw [q0, q1, q2, q3, q4]
/-- An array whose elements are known, element by element. -/
theorem arr_cells {fuel n c : Nat} {t e : TypeId} {cs : List Value} {ds : List (DataW H)} {p : List MemPlace} {L : List (List Value)} (ht : P.underlying t = some (.array n e)) (hce : P.cellsOf e = c) (hct : P.cellsOf t = n * c) (hL : L.length = n)
    (h : DataW.trod enc P w base sp held fuel t cs = some (.agg ds, p))
    (hel : ∀ i (hi : i < L.length) m cs' d q, ds[i]? = some d → DataW.trod enc P w base sp held m e cs' = some (d, q) → cs' = L[i]) : cs = L.flatten := by
  obtain ⟨xs, m, _, hx, hl, hlen, hg⟩ := DataW.trod_array ht h
  simp only [Prod.mk.injEq] at hx
  have hx1 := hx.1
  simp at hx1
  refine chunks (c := c) (by rw [hl, hct, hL]) fun i hi => ?_
  have := hg i (by omega)
  rw [hce] at this
  have hxi : xs[i]? = some (xs[i]'(by omega)) := List.getElem?_eq_getElem (by omega)
  rw [hxi] at this
  exact hel i hi m _ _ _ (by rw [hx1, List.getElem?_map, hxi]; rfl) this
/-- A field of a struct that is read: its type, its offset and its number of cells. -/
theorem field_of {n : Nat} {fs : Array Field} {cs : List Value} {xs : List (DataW H × List MemPlace)} (hg : ∀ (i : Nat) (f : Field), fs[i]? = some f → DataW.trod enc P w base sp held n f.type ((cs.drop f.offset).take (P.cellsOf f.type)) = xs[i]?) (i : Nat) (ty : TypeId) (off k : Nat)
    (h : (fs[i]?).map (fun f => (f.type, f.offset)) = some (ty, off)) (hk : P.cellsOf ty = k) : DataW.trod enc P w base sp held n ty ((cs.drop off).take k) = xs[i]? := by
  cases hf : fs[i]? with
  | none => rw [hf] at h; cases h
  | some f =>
    rw [hf] at h
    simp at h
    have := hg i f hf
    rw [h.1, h.2, hk] at this
    exact this
/-- A listed array, out of the row's condition. -/
theorem glob_of_laid {P : Program} {W : World} {laid : List (String × DataW Unit)} {name : String} {ds : List (DataW Unit)} {g n c : Nat} {t e : TypeId} {L : List (List Value)} {cs : Array Value} (i : Nat)
    (hpl : (laid.all fun x => x.2.handleName?.isNone) = true) (h : laidMetH P laid W) (hi : laid[i]? = some (name, .agg ds))
    (hg : P.globalNamed name = some g) (hty : (P.globals[g]?).map (·.type) = some t) (ht : P.underlying t = some (.array n e)) (hce : P.cellsOf e = c) (hct : P.cellsOf t = n * c) (hL : L.length = n) (hcs : cs = L.flatten.toArray)
    (hel : ∀ (w : World) i (hi : i < L.length) m cs' d q, ds[i]? = some d → DataW.trod (fun _ => ()) P w 0 (fun _ => true) false m e cs' = some (d, q) → cs' = L[i]) : Glob W g cs := by
  rw [MakeChecks.laidMetH_plain _ _ _ hpl] at h
  obtain ⟨ps, hv, _⟩ := h
  obtain ⟨g', t', cs', fuel, p, hg', ht', hvar, hd⟩ := vars_at hv i name _ hi
  obtain rfl := Option.some.inj (hg.symm.trans hg')
  obtain rfl := Option.some.inj (hty.symm.trans ht')
  have hc := arr_cells ht hce hct hL hd (hel W)
  unfold World.var? at hvar
  rw [hg] at hvar
  simp only [Option.bind_some] at hvar
  split at hvar
  · rename_i cs2 tt fr he
    injection hvar with hvar
    subst hvar
    refine ⟨tt, fr, by rw [he, hcs, ← hc]⟩
  · cases hvar
end
end Go.Proofs.YtokkbboahajbhaaGreatDoor
/- The listed table of calls. -/
namespace Go.Proofs.YtokkbboahajbhaaGreatDoor
open Go.ChangeShapes Go.WideShapes Go.RowKit Go.Joins Go.Deep
theorem cells_of_row (w : World) (i : Nat) (hi : i < (rowsC.map (CRow.cells .u8)).length) (m : Nat) (cs' : List Value) (d : DataW Unit) (q : List MemPlace) (ds : List (DataW Unit)) (hds : DataW.agg ds = Rows.laid_kaudit_call_calls) (hd : ds[i]? = some d) (ht : DataW.trod (fun _ => ()) Tryz.prog w 0 (fun _ => true) false m 72 cs' = some (d, q)) : cs' = (rowsC.map (CRow.cells .u8))[i] := by
  have H : ∀ k : Fin 22, ds[k.val]? = some d → cs' = (rowsC.map (CRow.cells .u8))[k.val]'(by have : (rowsC.map (CRow.cells .u8)).length = 22 := rfl; omega) := by
    unfold Rows.laid_kaudit_call_calls at hds
    injection hds with hds
    subst hds
    intro k hd
    match k with
    | ⟨0, _⟩ => exact row5_cells Tryz.underlying72 (by kernel_rfl) (by kernel_rfl) Tryz.underlying9 Tryz.underlying5 Tryz.underlying5 Tryz.underlying5 Tryz.underlying5 (by cases hd; exact ht)
    | ⟨1, _⟩ => exact row5_cells Tryz.underlying72 (by kernel_rfl) (by kernel_rfl) Tryz.underlying9 Tryz.underlying5 Tryz.underlying5 Tryz.underlying5 Tryz.underlying5 (by cases hd; exact ht)
    | ⟨2, _⟩ => exact row5_cells Tryz.underlying72 (by kernel_rfl) (by kernel_rfl) Tryz.underlying9 Tryz.underlying5 Tryz.underlying5 Tryz.underlying5 Tryz.underlying5 (by cases hd; exact ht)
    | ⟨3, _⟩ => exact row5_cells Tryz.underlying72 (by kernel_rfl) (by kernel_rfl) Tryz.underlying9 Tryz.underlying5 Tryz.underlying5 Tryz.underlying5 Tryz.underlying5 (by cases hd; exact ht)
    | ⟨4, _⟩ => exact row5_cells Tryz.underlying72 (by kernel_rfl) (by kernel_rfl) Tryz.underlying9 Tryz.underlying5 Tryz.underlying5 Tryz.underlying5 Tryz.underlying5 (by cases hd; exact ht)
    | ⟨5, _⟩ => exact row5_cells Tryz.underlying72 (by kernel_rfl) (by kernel_rfl) Tryz.underlying9 Tryz.underlying5 Tryz.underlying5 Tryz.underlying5 Tryz.underlying5 (by cases hd; exact ht)
    | ⟨6, _⟩ => exact row5_cells Tryz.underlying72 (by kernel_rfl) (by kernel_rfl) Tryz.underlying9 Tryz.underlying5 Tryz.underlying5 Tryz.underlying5 Tryz.underlying5 (by cases hd; exact ht)
    | ⟨7, _⟩ => exact row5_cells Tryz.underlying72 (by kernel_rfl) (by kernel_rfl) Tryz.underlying9 Tryz.underlying5 Tryz.underlying5 Tryz.underlying5 Tryz.underlying5 (by cases hd; exact ht)
    | ⟨8, _⟩ => exact row5_cells Tryz.underlying72 (by kernel_rfl) (by kernel_rfl) Tryz.underlying9 Tryz.underlying5 Tryz.underlying5 Tryz.underlying5 Tryz.underlying5 (by cases hd; exact ht)
    | ⟨9, _⟩ => exact row5_cells Tryz.underlying72 (by kernel_rfl) (by kernel_rfl) Tryz.underlying9 Tryz.underlying5 Tryz.underlying5 Tryz.underlying5 Tryz.underlying5 (by cases hd; exact ht)
    | ⟨10, _⟩ => exact row5_cells Tryz.underlying72 (by kernel_rfl) (by kernel_rfl) Tryz.underlying9 Tryz.underlying5 Tryz.underlying5 Tryz.underlying5 Tryz.underlying5 (by cases hd; exact ht)
    | ⟨11, _⟩ => exact row5_cells Tryz.underlying72 (by kernel_rfl) (by kernel_rfl) Tryz.underlying9 Tryz.underlying5 Tryz.underlying5 Tryz.underlying5 Tryz.underlying5 (by cases hd; exact ht)
    | ⟨12, _⟩ => exact row5_cells Tryz.underlying72 (by kernel_rfl) (by kernel_rfl) Tryz.underlying9 Tryz.underlying5 Tryz.underlying5 Tryz.underlying5 Tryz.underlying5 (by cases hd; exact ht)
    | ⟨13, _⟩ => exact row5_cells Tryz.underlying72 (by kernel_rfl) (by kernel_rfl) Tryz.underlying9 Tryz.underlying5 Tryz.underlying5 Tryz.underlying5 Tryz.underlying5 (by cases hd; exact ht)
    | ⟨14, _⟩ => exact row5_cells Tryz.underlying72 (by kernel_rfl) (by kernel_rfl) Tryz.underlying9 Tryz.underlying5 Tryz.underlying5 Tryz.underlying5 Tryz.underlying5 (by cases hd; exact ht)
    | ⟨15, _⟩ => exact row5_cells Tryz.underlying72 (by kernel_rfl) (by kernel_rfl) Tryz.underlying9 Tryz.underlying5 Tryz.underlying5 Tryz.underlying5 Tryz.underlying5 (by cases hd; exact ht)
    | ⟨16, _⟩ => exact row5_cells Tryz.underlying72 (by kernel_rfl) (by kernel_rfl) Tryz.underlying9 Tryz.underlying5 Tryz.underlying5 Tryz.underlying5 Tryz.underlying5 (by cases hd; exact ht)
    | ⟨17, _⟩ => exact row5_cells Tryz.underlying72 (by kernel_rfl) (by kernel_rfl) Tryz.underlying9 Tryz.underlying5 Tryz.underlying5 Tryz.underlying5 Tryz.underlying5 (by cases hd; exact ht)
    | ⟨18, _⟩ => exact row5_cells Tryz.underlying72 (by kernel_rfl) (by kernel_rfl) Tryz.underlying9 Tryz.underlying5 Tryz.underlying5 Tryz.underlying5 Tryz.underlying5 (by cases hd; exact ht)
    | ⟨19, _⟩ => exact row5_cells Tryz.underlying72 (by kernel_rfl) (by kernel_rfl) Tryz.underlying9 Tryz.underlying5 Tryz.underlying5 Tryz.underlying5 Tryz.underlying5 (by cases hd; exact ht)
    | ⟨20, _⟩ => exact row5_cells Tryz.underlying72 (by kernel_rfl) (by kernel_rfl) Tryz.underlying9 Tryz.underlying5 Tryz.underlying5 Tryz.underlying5 Tryz.underlying5 (by cases hd; exact ht)
    | ⟨21, _⟩ => exact row5_cells Tryz.underlying72 (by kernel_rfl) (by kernel_rfl) Tryz.underlying9 Tryz.underlying5 Tryz.underlying5 Tryz.underlying5 Tryz.underlying5 (by cases hd; exact ht)
    | ⟨k + 22, h⟩ => exact absurd h (by omega)
  exact H ⟨i, hi⟩ hd
theorem calls_of_laid {W : World} {laid : List (String × DataW Unit)} (i : Nat) (hpl : (laid.all fun x => x.2.handleName?.isNone) = true) (h : laidMetH Tryz.prog laid W) (hi : laid[i]? = some ("kaudit/call.calls", Rows.laid_kaudit_call_calls)) : Calls10 W :=
  glob_of_laid (t := 73) (e := 72) (c := 5) (n := 22) (L := rowsC.map (CRow.cells .u8)) i hpl h hi rfl (by kernel_rfl) Tryz.underlying73 (by kernel_rfl) (by kernel_rfl) rfl rfl (fun w i hi m cs' d q hd ht => cells_of_row w i hi m cs' d q _ rfl hd ht)
end Go.Proofs.YtokkbboahajbhaaGreatDoor
/- The wrap of a law's row that keeps the world's shape beside what the listed variables hold. -/
namespace Go.Proofs.YtokkbboahajbhaaGreatDoor
open Go
variable {H : Type} {enc : TypeId × Value → H}
theorem handed_and_shaped {a : Assume} {C : Checked} {os : Os} {f : FuncId} {fn : Func} {s : ChangeSpec} {conds : List PathCond} {apart fresh handsOn again : Bool} {X : World → Array Value → Prop}
    (hX : ∀ (w w' : World) (args : Array Value), w.heap = w'.heap → X w args → X w' args)
    (own : ownKnob C.prog.godebug = none) (started : os.Started) (noInit : C.prog.inits.idxOf? f = none) (hfn : C.prog.funcs[f]? = some fn)
    (witness : ∃ (w : World) (tape : Tape) (i : Input), w.os = os ∧ (w.forCall tape i).Shaped C.prog ∧ i.vars = [] ∧ Input.okWide C.prog (w.forCall tape i) .any w.heap.size f i ∧
      ((s.pre enc C.prog fn conds apart (w.forCall tape i).memory i.args ∧ X (w.forCall tape i).memory i.args) ∧ sizedMet enc C.prog fn (OpenSpec.ofChange s) apart (w.forCall tape i).memory i.args) ∧ a.holds C.prog (lone (Frame.enter C.prog f i.args .normal) [] (w.forCall tape i)))
    (contract : ∀ (W : World) (base : Nat) (args : Array Value) (ds gs : List (DataW H)) (before : List MemPlace),
      (∀ (j : Nat) t v, fn.params[j]? = some t → args[j]? = some v → Value.okWide C.prog W .any base t v) →
      DataW.Whole enc C.prog fn.params.toList s.vars apart W args.toList ds gs before → X W args → W.ShapedOpen C.prog →
      Calls C.prog f args W fun e W' => ∃ v, e = .returned v ∧ s.post enc C.prog fn apart fresh handsOn again W args v W') :
    ReturnsInHanded a C os f .any (fun w args => (s.pre enc C.prog fn conds apart w args ∧ X w args) ∧ sizedMet enc C.prog fn (OpenSpec.ofChange s) apart w args) (s.post enc C.prog fn apart fresh handsOn again) := by
  refine returnsInHanded_of_calls own started noInit witness ?_
  intro w tape i _ hsh _ hok hpre hholds
  obtain ⟨_, _, _, fn', hfn', _, _, _, _, hval⟩ := hok
  have e : fn' = fn := Option.some.inj (hfn'.symm.trans hfn)
  subst e
  obtain ⟨⟨⟨ds, gs, before, hw, hc⟩, hx⟩, hz⟩ := hpre
  have hw' := DataW.Whole.of_heap (w' := w.forCall tape i) (by rfl) hw
  refine (contract (w.forCall tape i) w.heap.size i.args ds gs before hval hw' (hX _ _ _ (by rfl) hx) hsh).mono fun e W' ⟨v, he, hp⟩ => ?_
  subst he
  exact ChangeSpec.post_blind hp
end Go.Proofs.YtokkbboahajbhaaGreatDoor
/- The listed error variables; the variable MaxLen, out of the world's shape. -/
namespace Go.Proofs.YtokkbboahajbhaaGreatDoor
open Go.RowKit
theorem errv_of_laid {W : World} {laid : List (String × DataW Unit)} {name nm : String} {d : DataW Unit} {g : Nat} {ms : Array (String × TypeId)} (i : Nat) (hpl : (laid.all fun x => x.2.handleName?.isNone) = true) (h : laidMetH Tryz.prog laid W) (hi : laid[i]? = some (name, .iface nm d))
    (hg : Tryz.prog.globalNamed name = some g) (hty : (Tryz.prog.globals[g]?).map (·.type) = some 80) (hu : Tryz.prog.underlying 80 = some (.interface ms)) : ErrV W g := by
  rw [MakeChecks.laidMetH_plain _ _ _ hpl] at h
  obtain ⟨ps, hv, _⟩ := h
  obtain ⟨g', t', cs, fuel, p, hg', ht', hvar, hd⟩ := vars_at hv i name _ hi
  obtain rfl := Option.some.inj (hg.symm.trans hg')
  obtain rfl := Option.some.inj (hty.symm.trans ht')
  obtain ⟨_, u, v, hc, _, _⟩ := iface_of_trod hu hd
  unfold World.var? at hvar
  rw [hg] at hvar
  simp only [Option.bind_some] at hvar
  split at hvar
  · rename_i cs2 tt fr he
    injection hvar with hvar
    subst hvar
    refine ⟨.iface u v, ?_, .inr ⟨u, v, rfl⟩⟩
    rw [cell_of_row W _ 0 cs2 tt fr he]
    have : cs2 = #[.iface u v] := by apply Array.toList_inj.1; rw [hc]
    rw [this]; rfl
  · cases hvar
theorem mx_of_shape {W : World} (h : W.ShapedOpen Tryz.prog) : Mx W :=
  cell_of_shapedOpen_int (P := Tryz.prog) (g := 3) (t := 3) (zero := #[.int .i64 0]) h (of_decide_eq_true (by kernel_rfl)) (by kernel_rfl) rfl (by kernel_rfl) (by kernel_rfl) Tryz.underlying3
end Go.Proofs.YtokkbboahajbhaaGreatDoor
/- The walk of CallBuilt, with what the row lists. -/

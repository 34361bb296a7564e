/- Texts of one proof, laid together. -/
import Derived.Test.YtbbihfafkpniiaaGreatDoorC21
import Derived.Deep.RegionHeld3
import Derived.Test.YtbbihfafkpniiaaGreatDoorC09
import Derived.Test.YtbbihfafkpniiaaGreatDoorC08
import Derived.Test.YtbbihfafkpniiaaGreatDoorC11
import Derived.Test.YtbbihfafkpniiaaGreatDoorC04
/- Format of the reference's rules: plain facts, and its key. -/
namespace Go.Proofs.YtbbihfafkpniiaaGreatDoor
open Go.RowKit
/-- What the reference's Format keeps: the text so far, the rule's box. -/
structure RSt (w wr : World) (r : Rul) (s : Value) (v : Value) (T : ByteArray) : Prop where
  v : v = .string T
  g : RulB wr w.heap.size r s
  low : Below w.heap.size w wr
theorem RSt.below {w wr w' : World} {r : Rul} {s v : Value} {T : ByteArray} (h : RSt w wr r s v T) (hb : Below wr.heap.size wr w') : RSt w w' r s v T := ⟨h.v, Blk.below h.g hb, below_then h.low hb⟩
theorem text_head (X Y : ByteArray) : (⟨#[45, 97, 32]⟩ : ByteArray) ++ X ++ ⟨#[44]⟩ ++ Y = catW fA [X ++ ⟨#[44]⟩ ++ Y] := by
  show _ = fA ++ ((⟨#[32]⟩ : ByteArray) ++ (X ++ ⟨#[44]⟩ ++ Y))
  apply ByteArray.ext; simp [fA]
theorem catW_two (x : ByteArray) (L : List ByteArray) (f t : ByteArray) : catW x (L ++ [f, t]) = catW x L ++ ((⟨#[32]⟩ ++ f ++ ⟨#[32]⟩) ++ t) := by
  rw [show L ++ [f, t] = (L ++ [f]) ++ [t] by simp, catW_snoc, catW_snoc]
  apply ByteArray.ext; simp
theorem text_S (T : ByteArray) (x : ByteArray) (L : List ByteArray) (X : ByteArray) (h : T = catW x L) : T ++ ((⟨#[32, 45, 83, 32]⟩ : ByteArray) ++ X) = catW x (L ++ [fS, X]) := by rw [catW_two, h]; rfl
theorem text_C (T : ByteArray) (x : ByteArray) (L : List ByteArray) (X : ByteArray) (h : T = catW x L) : T ++ ((⟨#[32, 45, 67, 32]⟩ : ByteArray) ++ X) = catW x (L ++ [fC, X]) := by rw [catW_two, h]; rfl
theorem text_F (T : ByteArray) (x : ByteArray) (L : List ByteArray) (X : ByteArray) (h : T = catW x L) : T ++ ((⟨#[32, 45, 70, 32]⟩ : ByteArray) ++ X) = catW x (L ++ [fF, X]) := by rw [catW_two, h]; rfl
theorem text_K (T : ByteArray) (x : ByteArray) (L : List ByteArray) (X : ByteArray) (h : T = catW x L) : T ++ ((⟨#[32, 45, 107, 32]⟩ : ByteArray) ++ X) = catW x (L ++ [fK, X]) := by rw [catW_two, h]; rfl
theorem text_path (T : ByteArray) (x : ByteArray) (L : List ByteArray) (Q P : ByteArray) (h : T = catW x L) : T ++ ((⟨#[32, 45, 70, 32, 112, 97, 116, 104, 61]⟩ : ByteArray) ++ Q ++ ⟨#[32, 45, 70, 32, 112, 101, 114, 109, 61]⟩ ++ P) = catW x (L ++ [fF, pathW ++ Q, fF, permW ++ P]) := by
  rw [show L ++ [fF, pathW ++ Q, fF, permW ++ P] = (L ++ [fF, pathW ++ Q]) ++ [fF, permW ++ P] by simp, catW_two, catW_two, h]
  apply ByteArray.ext; apply Array.ext'; simp [fF, pathW, permW]
theorem text_dir (T : ByteArray) (x : ByteArray) (L : List ByteArray) (Q P : ByteArray) (h : T = catW x L) : T ++ ((⟨#[32, 45, 70, 32, 100, 105, 114, 61]⟩ : ByteArray) ++ Q ++ ⟨#[32, 45, 70, 32, 112, 101, 114, 109, 61]⟩ ++ P) = catW x (L ++ [fF, dirW ++ Q, fF, permW ++ P]) := by
  rw [show L ++ [fF, dirW ++ Q, fF, permW ++ P] = (L ++ [fF, dirW ++ Q]) ++ [fF, permW ++ P] by simp, catW_two, catW_two, h]
  apply ByteArray.ext; apply Array.ext'; simp [fF, dirW, permW]
/-- What the reference's key returns. -/
def keyT (k : ByteArray) : ByteArray := if k.size = 0 then ⟨#[]⟩ else ⟨#[32, 45, 107, 32]⟩ ++ quoteS k
theorem text_key (x : ByteArray) (L : List ByteArray) (k : ByteArray) : catW x L ++ keyT k = catW x (L ++ keyW k) := by
  unfold keyT keyW
  split
  · rw [List.append_nil]; apply ByteArray.ext; simp
  · exact text_K _ x L _ rfl
theorem keyT_size (k : ByteArray) (h : k.size ≤ 31) : (keyT k).size ≤ 1400 := by
  unfold keyT
  split
  · decide
  · have := quoteS_leF k (by omega)
    rw [ByteArray.size_append]
    have e : (⟨#[32, 45, 107, 32]⟩ : ByteArray).size = 4 := rfl
    omega
theorem text_pre {r : Rul} (h : GoodR r) (L M : List ByteArray) (e : restR r = L ++ M) : (catW fA L).size ≤ 70000 := by
  have hr := rest_size h
  have hs := catW_size 2100 L fA (fun t ht => hr.1 t (by rw [e]; exact List.mem_append_left _ ht))
  have hl : L.length ≤ 30 := by have := hr.2; rw [e, List.length_append] at this; omega
  have h2 : L.length * 2101 ≤ 30 * 2101 := Nat.mul_le_mul_right _ hl
  have e1 : fA.size = 2 := rfl
  omega
theorem testsW_split (ts : List Tst) (k : Nat) : testsW ts ts.length = testsW ts k ++ partW ((ts.drop k).map .tst) := by
  unfold testsW partW
  rw [List.take_length, ← List.flatMap_append, ← List.map_append, List.take_append_drop]
attribute [local irreducible] checkF watchB callsB firstE checkR cleanB callsOk textR headW maskS quoteS testS anyE permS catW listN actN cellsAc cellsLi keyT
set_option maxRecDepth 100000 in
set_option maxHeartbeats 4000000 in
theorem rkey (r : Rul) (A : Option Addr) (n c : Nat) (hk : r.ke.size ≤ 31) (w : World) : Calls Tryz.prog 40 #[rulV r (.slice A n c)] w fun e w' => e = .returned (.string (keyT r.ke)) ∧ Below w.heap.size w w' := by
  obtain ⟨HG0, HB0⟩ := rul_box w r (.slice A n c)
  have HB := Lib.hid HB0
  have HQ := Lib.hid (fun W => rquoteR r.ke W (by unfold maxLen; omega))
  have hkq : (quoteS r.ke).size ≤ 1300 := quoteS_leF r.ke (by omega)
  clear HG0 HB0
  by_cases hz : r.ke.size = 0
  · have ek := emptyF hz
    have HT := Lib.hid (show keyT r.ke = ⟨#[]⟩ by unfold keyT; rw [if_pos hz])
    have hks : r.ke.toList.isEmpty = true := by rw [ek]; rfl
    go_enter Tryz.func40, Tryz.ntmps40
    go_wp2_with fail
    go_ret
    exact ⟨congrArg (fun b => Ending.returned (.string b)) HT.out.symm, HB.out⟩
  · have ek := nonemptyF hz
    have ek2 : r.ke.toList.isEmpty = false := by simpa using ek
    have HT := Lib.hid (show keyT r.ke = ⟨#[32, 45, 107, 32]⟩ ++ quoteS r.ke by unfold keyT; rw [if_neg hz])
    go_enter Tryz.func40, Tryz.ntmps40
    go_wp2_with fail
    refine (HQ.out _).mono ?_
    rintro e w1 ⟨rfl, hb1⟩
    go_wp2_with fail
    go_ret
    exact ⟨congrArg (fun b => Ending.returned (.string b)) HT.out.symm, below_then HB.out hb1⟩
end Go.Proofs.YtbbihfafkpniiaaGreatDoor
/- The short form of rules: the program's short, the reference's Short. -/
namespace Go.Proofs.YtbbihfafkpniiaaGreatDoor
open Go.RowKit
theorem text_w (f Q P : ByteArray) : f ++ ⟨#[32]⟩ ++ Q ++ ⟨#[32, 45, 112, 32]⟩ ++ P = catW f [Q, fP, P] := by
  show _ = f ++ ((⟨#[32]⟩ : ByteArray) ++ Q) ++ (⟨#[32]⟩ ++ fP) ++ (⟨#[32]⟩ ++ P)
  apply ByteArray.ext; apply Array.ext'; simp [fP]
theorem short_text (r : Rul) : catW (flagW r.wa) [quoteS r.pa, fP, permS r.pe] ++ keyT r.ke = shortT r := by
  rw [text_key]; rfl
theorem short_text2 (r : Rul) (f : ByteArray) (h : f ++ ⟨#[32]⟩ = flagW r.wa ++ ⟨#[32]⟩) : f ++ ⟨#[32]⟩ ++ quoteS r.pa ++ ⟨#[32, 45, 112, 32]⟩ ++ permS r.pe ++ keyT r.ke = shortT r := by
  rw [h, text_w, short_text]
attribute [local irreducible] checkF watchB callsB firstE checkR cleanB callsOk textR headW maskS quoteS testS anyE permS catW listN actN cellsAc cellsLi keyT shortT
set_option maxRecDepth 100000 in
set_option maxHeartbeats 4000000 in
theorem vshortT (r : Rul) (A : Option Addr) (n c : Nat) (hw : r.wa = 1 ∨ r.wa = 2) (hpa : r.pa.size ≤ 128) (hpe : 0 ≤ r.pe ∧ r.pe ≤ 15) (hke : r.ke.size ≤ 31) (w : World) (tb : Tab w) (pb : RPerm w) :
    Calls Tryz.prog 54 #[rulV r (.slice A n c)] w fun e w' => e = .returned (.string (shortT r)) ∧ Below w.heap.size w w' := by
  obtain ⟨HG0, HB0⟩ := rul_box w r (.slice A n c)
  have st : RSt w (w.alloc (.cells (rulC r (.slice A n c)) 26)) r (.slice A n c) (.string (flagW r.wa)) (flagW r.wa) := ⟨rfl, HG0, HB0⟩
  have HTB := Lib.hid (fun (W : World) (h : Below w.heap.size w W) => tb.below h (Nat.le_refl _))
  have HPB := Lib.hid (fun (W : World) (h : Below w.heap.size w W) => pb.below h)
  have HQT := Lib.hid (fun W (h : Below w.heap.size w W) => vquoteR r.pa W (by unfold maxLen; omega) (HTB.out _ h))
  have HQK := Lib.hid (fun W (h : Below w.heap.size w W) => vquoteR r.ke W (by unfold maxLen; omega) (HTB.out _ h))
  have HLT := Lib.hid (fun W (h : Below w.heap.size w W) => vletters r.pe hpe W (HPB.out _ h))
  have hQ : (quoteS r.pa).size ≤ 1300 := quoteS_leF r.pa (by omega)
  have hK : (quoteS r.ke).size ≤ 1300 := quoteS_leF r.ke (by omega)
  have hL : (permS r.pe).size ≤ 4 := by rw [permS_bits, ← permK_all]; exact permK_size _ _ _ _ _
  have hF : (flagW r.wa).size ≤ 2 := by unfold flagW; split <;> decide
  have HTP := Lib.hid (text_w (flagW r.wa) (quoteS r.pa) (permS r.pe))
  have HFIN := Lib.hid (short_text r)
  have HF := Lib.hid (show (r.wa = 1 → flagW r.wa = ⟨#[45, 119]⟩) ∧ (r.wa = 2 → flagW r.wa = ⟨#[45, 116]⟩) from ⟨fun h => by unfold flagW; rw [if_neg (by omega)]; rfl, fun h => by unfold flagW; rw [if_pos h]; rfl⟩)
  have ST := Lib.hid st
  have c4 := RulB.c4 st.g
  have HW := Lib.hid hw
  have hT : (catW (flagW r.wa) [quoteS r.pa, fP, permS r.pe]).size ≤ 9000 := by
    have := catW_size 1300 [quoteS r.pa, fP, permS r.pe] (flagW r.wa) (fun t ht => by simp at ht; rcases ht with rfl | rfl | rfl; exact hQ; decide; omega)
    simp only [List.length_cons, List.length_nil] at this
    omega
  clear HG0 HB0 st hw tb pb hpa hpe
  have HKT := Lib.hid (show (r.ke.size = 0 → keyT r.ke = ⟨#[]⟩) ∧ (r.ke.size ≠ 0 → keyT r.ke = ⟨#[32, 45, 107, 32]⟩ ++ quoteS r.ke) from ⟨fun h => by unfold keyT; rw [if_pos h], fun h => by unfold keyT; rw [if_neg h]⟩)
  generalize catW (flagW r.wa) [quoteS r.pa, fP, permS r.pe] = T at *
  generalize flagW r.wa = F at *
  go_enter Tryz.func54, Tryz.ntmps54
  go_upto_if 7 with (fail)
  go_cut [3] (fun v wx => RSt w wx r (.slice A n c) v F)
  case first =>
    rcases HW.out with h1 | h1
    · have b1 : (r.wa == 2) = false := by simp; omega
      have HF1 := Lib.hid (HF.out.1 h1)
      clear h1 HW
      go_wp2_with fail
      go_meet
      exact ⟨congrArg Value.string HF1.out.symm, ST.out.g, ST.out.low⟩
    · have b1 : (r.wa == 2) = true := by simp; omega
      have HF1 := Lib.hid (HF.out.2 h1)
      clear h1 HW
      go_wp2_with fail
      go_meet
      exact ⟨congrArg Value.string HF1.out.symm, ST.out.g, ST.out.low⟩
  case rest =>
  clear ST c4
  obtain rfl := hcut.v
  have ST := Lib.hid hcut
  clear hcut
  generalize quoteS r.pa = Q at *
  generalize permS r.pe = L at *
  go_upto_region 4 with (fail)
  go_cut [4] (fun v wx => RSt w wx r (.slice A n c) v T)
  case first =>
    have st0 := ST.out.below (Below.refl _ _).drew
    refine wp_region_held_drew (S := (fun w' => RulB w' w.heap.size r (.slice A n c))) (by kernel_rfl) st0.g (fun hHeld => ?_)
    refine wpAnyH_take (i := 0) (v := ?_) rfl (by kernel_rfl) (by kernel_rfl) (by kernel_rfl) (fun _ _ _ h => h) (Or.inl ⟨by kernel_rfl, ?_⟩) hHeld ?_
    rotate_left
    · intro w hSw
      go_simp
      first | (with_reducible rfl) | (rw [if_neg (by first | omega | (simp only [ByteArray.size_append]; omega) | (simp; omega))])
    refine wpAnyH_take (i := 1) (v := ?_) rfl (by kernel_rfl) (by kernel_rfl) (by kernel_rfl) (fun _ _ _ h => h) (Or.inl ⟨by kernel_rfl, ?_⟩) hHeld ?_
    rotate_left
    · intro w hSw
      go_simp
      first | (with_reducible rfl) | (rw [if_neg (by first | omega | (simp only [ByteArray.size_append]; omega) | (simp; omega))])
    refine wpAnyH_take (i := 2) (v := ?_) rfl (by kernel_rfl) (by kernel_rfl) (by kernel_rfl) (fun _ _ _ h => h) (Or.inl ⟨by kernel_rfl, ?_⟩) hHeld ?_
    rotate_left
    · intro w hSw
      go_simp
      first | (with_reducible rfl) | (rw [if_neg (by first | omega | (simp only [ByteArray.size_append]; omega) | (simp; omega))])
    refine wpAnyH_take (i := 7) (v := ?_) rfl (by kernel_rfl) (by kernel_rfl) (by kernel_rfl) (fun _ _ _ h => h) (Or.inl ⟨by kernel_rfl, ?_⟩) hHeld ?_
    rotate_left
    · intro w hSw
      go_simp
      first | (with_reducible rfl) | (rw [if_neg (by first | omega | (simp only [ByteArray.size_append]; omega) | (simp; omega))])
    refine wpAnyH_take (i := 3) (v := ?_) rfl (by kernel_rfl) (by kernel_rfl) (by kernel_rfl) (fun _ _ _ h => h) (Or.inl ⟨by kernel_rfl, ?_⟩) hHeld ?_
    rotate_left
    · intro w hSw
      have k5 := RulB.c5 hSw
      go_simp
      first | (with_reducible rfl) | (rw [if_neg (by first | omega | (simp only [ByteArray.size_append]; omega) | (simp; omega))])
    refine wpAnyH_take (i := 8) (v := ?_) rfl (by kernel_rfl) (by kernel_rfl) (by kernel_rfl) (fun _ _ _ h => h) (Or.inl ⟨by kernel_rfl, ?_⟩) hHeld ?_
    rotate_left
    · intro w hSw
      have k6 := RulB.c6 hSw
      go_simp
      first | (with_reducible rfl) | (rw [if_neg (by first | omega | (simp only [ByteArray.size_append]; omega) | (simp; omega))])
    refine wpAnyH_ready (rs := [4]) (by kernel_rfl) (by simp) ?_
    refine AllReadyH.cons rfl (fun K hK => ?_) AllReadyH.nil
    go_simp
    go_at_call 44
    refine (HQT.out _ st0.low).mono ?_
    rintro e wq ⟨rfl, hb⟩
    have stq := st0.below hb
    clear hb
    go_simp
    refine hK.out _ _ stq.g (fun hHeld => ?_)
    clear hK K
    refine wpAnyH_take (i := 5) (v := ?_) rfl (by kernel_rfl) (by kernel_rfl) (by kernel_rfl) (fun _ _ _ h => h) (Or.inl ⟨by kernel_rfl, ?_⟩) hHeld ?_
    rotate_left
    · intro w hSw
      go_simp
      first | (with_reducible rfl) | (rw [if_neg (by first | omega | (simp only [ByteArray.size_append]; omega) | (simp; omega))])
    refine wpAnyH_take (i := 6) (v := ?_) rfl (by kernel_rfl) (by kernel_rfl) (by kernel_rfl) (fun _ _ _ h => h) (Or.inl ⟨by kernel_rfl, ?_⟩) hHeld ?_
    rotate_left
    · intro w hSw
      go_simp
      first | (with_reducible rfl) | (rw [if_neg (by first | omega | (simp only [ByteArray.size_append]; omega) | (simp; omega))])
    refine wpAnyH_ready (rs := [9]) (by kernel_rfl) (by simp) ?_
    refine AllReadyH.cons rfl (fun K hK => ?_) AllReadyH.nil
    go_simp
    go_at_call 45
    refine (HLT.out _ stq.low).mono ?_
    rintro e wl ⟨rfl, rfl⟩
    go_simp
    refine hK.out _ _ hHeld (fun hHeld => ?_)
    clear hK K
    refine wpAnyH_take (i := 10) (v := ?_) rfl (by kernel_rfl) (by kernel_rfl) (by kernel_rfl) (fun _ _ _ h => h) (Or.inl ⟨by kernel_rfl, ?_⟩) hHeld ?_
    rotate_left
    · intro w hSw
      go_simp
      first | (with_reducible rfl) | (rw [if_neg (by first | omega | (simp only [ByteArray.size_append]; omega) | (simp; omega))])
    refine wpAnyH_ready (rs := [11]) (by kernel_rfl) (by simp) ?_
    refine AllReadyH.cons rfl (fun K hK => ?_) AllReadyH.nil
    go_simp
    refine hK.out _ _ hHeld (fun hHeld => ?_)
    clear hK K
    refine wpAnyH_done (by kernel_rfl) ?_ _
    go_wp2_with fail
    go_meet
    exact ⟨congrArg Value.string HTP.out, stq.g, stq.low⟩
  case rest =>
  have ST4 := Lib.hid hcut
  obtain rfl := hcut.v
  have c7 := RulB.c7 hcut.g
  clear hcut ST
  by_cases hkz : r.ke.size = 0
  · have ek := emptyF hkz
    have HK0 := Lib.hid (HKT.out.1 hkz)
    have HX := Lib.hid (show T = shortT r by rw [← HFIN.out, HK0.out]; apply ByteArray.ext; simp)
    clear hkz
    go_wp2_with fail
    go_ret
    exact ⟨congrArg (fun b => Ending.returned (.string b)) HX.out, ST4.out.low⟩
  · have ek := nonemptyF hkz
    have ek2 : r.ke.toList.isEmpty = false := by simpa using ek
    have HX := Lib.hid (show T ++ (⟨#[32, 45, 107, 32]⟩ ++ quoteS r.ke) = shortT r by rw [← HFIN.out, HKT.out.2 hkz])
    clear hkz
    go_wp2_with fail
    refine (HQK.out _ ST4.out.low).mono ?_
    rintro e w8 ⟨rfl, hb8⟩
    have st8 := ST4.out.below hb8
    clear hb8
    go_wp2_with fail
    go_ret
    exact ⟨congrArg (fun b => Ending.returned (.string b)) HX.out, st8.low⟩
end Go.Proofs.YtbbihfafkpniiaaGreatDoor
/- The reader of the program's Parse: its block, and plain facts of its words. -/
namespace Go.Proofs.YtbbihfafkpniiaaGreatDoor
open Go.RowKit
/-- Nothing that was there has turned but block g. -/
def OnlyR (g : Nat) (w w' : World) : Prop := w.grownBy w' (some g)
theorem OnlyR.refl (g : Nat) (w : World) : OnlyR g w w := ⟨rfl, rfl, rfl, Nat.le_refl _, fun _ _ _ => rfl⟩
theorem OnlyR.trans {g : Nat} {a b c : World} (h : OnlyR g a b) (k : OnlyR g b c) : OnlyR g a c :=
  ⟨k.os.trans h.os, k.tape.trans h.tape, k.output.trans h.output, Nat.le_trans h.size k.size, fun i hi hne => (k.block i (Nat.lt_of_lt_of_le hi h.size) hne).trans (h.block i hi hne)⟩
theorem OnlyR.of {g : Nat} {w w' : World} (h : Below w.heap.size w w') : OnlyR g w w' := ⟨h.os, h.tape, h.output, h.size, fun i hi _ => h.block i hi⟩
theorem OnlyR.drewN {g : Nat} {a w : World} (h : OnlyR g a w) (n : Nat) : OnlyR g a (w.drewN n) := ⟨h.os, h.tape, h.output, h.size, h.block⟩
theorem OnlyR.put {g : Nat} {a w : World} (h : OnlyR g a w) (j : Nat) (v : Value) : OnlyR g a (w.setCell ⟨g, j, none⟩ v) :=
  h.trans ⟨rfl, rfl, rfl, by simp [World.setCell], fun i _ hne => Below.heap_setCell _ _ _ _ (fun e => hne (by rw [e]))⟩
theorem OnlyR.then {g : Nat} {a w w' : World} (h : OnlyR g a w) (k : Below w.heap.size w w') : OnlyR g a w' := h.trans (OnlyR.of k)
theorem OnlyR.low {B g : Nat} {a w w' : World} (h : Below B a w) (k : OnlyR g w w') (hB : B ≤ g) (hg : g < w.heap.size) : Below B a w' :=
  h.grown k (by omega) (fun i e => by injection e with e; omega)
theorem OnlyR.below {B g : Nat} {w w' : World} (k : OnlyR g w w') (hB : B ≤ g) (hg : g ≤ w.heap.size) : Below B w w' :=
  ⟨k.os, k.tape, k.output, k.size, fun i hi => k.block i (by omega) (fun e => by injection e with e; omega)⟩
theorem Blk.onlyR {w w' : World} {g k : Nat} {t : TypeId} {cs : Array Value} (h : Blk w k t cs) (ho : OnlyR g w w') (hne : k ≠ g) : Blk w' k t cs :=
  (ho.block k h.lt (fun e => hne (by injection e))).trans h
theorem StrsAt.onlyR {w w' : World} {g : Nat} {A : Option Addr} {ss : List ByteArray} (h : StrsAt w g A ss) (ho : OnlyR g w w') (hg : g ≤ w.heap.size) : StrsAt w' g A ss :=
  h.keep (ho.below (Nat.le_refl _) hg) (Nat.le_refl _)
/-- What of variables Parse reads, as it was when Parse began; only blocks from g on have turned. -/
structure Gl (w0 : World) (g : Nat) (w : World) : Prop where
  glob : RGlob w0
  env : Env w0
  low : Below w0.heap.size w0 w
  le : w0.heap.size ≤ g
section
variable {w0 w w' : World} {g : Nat}
theorem Gl.only (h : Gl w0 g w) (ho : OnlyR g w w') (hg : g < w.heap.size) : Gl w0 g w' := ⟨h.glob, h.env, OnlyR.low h.low ho h.le hg, h.le⟩
theorem Gl.below (h : Gl w0 g w) (hb : Below g w w') : Gl w0 g w' := ⟨h.glob, h.env, h.low.trans (hb.mono h.le), h.le⟩
theorem Gl.now (h : Gl w0 g w) : RGlob w := h.glob.below h.low
theorem Gl.envs (h : Gl w0 g w) : Env w := h.env.below h.low
end
/-- A reader's cells. -/
abbrev rdC (v : Value) (k : Nat) (b : Bool) : Array Value := #[v, .int .i64 (k : Int), .bool b]
abbrev RdB (w : World) (g : Nat) (v : Value) (k : Nat) (b : Bool) : Prop := Blk w g 74 (rdC v k b)
section
variable {w : World} {g k : Nat} {v : Value} {b : Bool}
theorem RdB.c0 (h : RdB w g v k b) : w.cell? ⟨g, 0, none⟩ = some v := h.cell 0
theorem RdB.c1 (h : RdB w g v k b) : w.cell? ⟨g, 1, none⟩ = some (.int .i64 (k : Int)) := h.cell 1
theorem RdB.c2 (h : RdB w g v k b) : w.cell? ⟨g, 2, none⟩ = some (.bool b) := h.cell 2
end
/-- A reader of the words ws, in block g, that stands at k. -/
structure RdS (w : World) (g : Nat) (A : Option Addr) (n c : Nat) (ws : List ByteArray) (k : Nat) (b : Bool) : Prop where
  blk : RdB w g (.slice A n c) k b
  str : StrsAt w g A ws
  len : n = ws.length
  top : n ≤ 100001
  low : k ≤ n
section
variable {w w' : World} {g n c k : Nat} {A : Option Addr} {ws : List ByteArray} {b : Bool}
theorem RdS.lt (h : RdS w g A n c ws k b) : g < w.heap.size := h.blk.lt
theorem RdS.drewN (h : RdS w g A n c ws k b) (m : Nat) : RdS (w.drewN m) g A n c ws k b := ⟨h.blk, h.str.keep ((Below.refl g w).trans ⟨rfl, rfl, rfl, Nat.le_refl _, fun _ _ => rfl⟩) (Nat.le_refl _), h.len, h.top, h.low⟩
theorem RdS.below (h : RdS w g A n c ws k b) (hb : Below w.heap.size w w') : RdS w' g A n c ws k b := ⟨Blk.below h.blk hb, h.str.keep hb (by have := h.lt; omega), h.len, h.top, h.low⟩
theorem RdS.bad (h : RdS w g A n c ws k b) : RdS (w.setCell ⟨g, 2, none⟩ (.bool true)) g A n c ws k true := ⟨Blk.put h.blk 2 (.bool true), h.str.setCell (Nat.le_refl _) _, h.len, h.top, h.low⟩
theorem RdS.step (h : RdS w g A n c ws k b) (hk : k < n) : RdS (w.setCell ⟨g, 1, none⟩ (.int .i64 ((k : Int) + 1))) g A n c ws (k + 1) b := ⟨by
  have := Blk.put h.blk 1 (.int .i64 ((k + 1 : Nat) : Int))
  rwa [show ((k + 1 : Nat) : Int) = (k : Int) + 1 by omega] at this, h.str.setCell (Nat.le_refl _) _, h.len, h.top, hk⟩
end
/-- The word at k, or none. -/
def wordAt (ws : List ByteArray) (k : Nat) : ByteArray := ws.getD k ⟨#[]⟩
theorem wordAt_end {ws : List ByteArray} {k : Nat} (h : ws.length ≤ k) : wordAt ws k = ⟨#[]⟩ := by unfold wordAt; rw [List.getD_eq_getElem?_getD, List.getElem?_eq_none h]; rfl
theorem wordAt_in {ws : List ByteArray} {k : Nat} (h : k < ws.length) : wordAt ws k = ws[k] := by unfold wordAt; rw [List.getD_eq_getElem?_getD, List.getElem?_eq_getElem h]; rfl
theorem wordAt_some {ws : List ByteArray} {k : Nat} {s : ByteArray} (h : ws[k]? = some s) : wordAt ws k = s ∧ k < ws.length := by
  refine ⟨by unfold wordAt; rw [List.getD_eq_getElem?_getD, h]; rfl, (List.getElem?_eq_some_iff.1 h).1⟩
theorem wordAt_size {ws : List ByteArray} {m : Nat} (h : ∀ x ∈ ws, x.size ≤ m) (k : Nat) : (wordAt ws k).size ≤ m := by
  by_cases hk : k < ws.length
  · rw [wordAt_in hk]; exact h _ (List.getElem_mem hk)
  · rw [wordAt_end (by omega)]; exact Nat.zero_le _
theorem unqS_sz (s : ByteArray) : (unqS s).size ≤ 640 := by
  cases h : unqO s.data.toList with
  | none => rw [unqS_none h]; decide
  | some t =>
    rw [unqS_some h]
    have := (of_unqO h).2
    show t.toArray.size ≤ 640
    simpa using this
/-- A word is a flag, or none: as the walk asks. -/
theorem lit_eq {x : ByteArray} {f : ByteArray} {l : List UInt8} (hf : f.toList = l) (h : x = f) : (x.toList == l) = true := by have := str_eq h; rwa [hf] at this
theorem lit_ne {x : ByteArray} {f : ByteArray} {l : List UInt8} (hf : f.toList = l) (h : x ≠ f) : (x.toList == l) = false := by have := str_ne h; rwa [hf] at this
theorem lit_dec {x : ByteArray} {f : ByteArray} {l : List UInt8} (hf : f.toList = l) : ∃ t : Bool, (x.toList == l) = t ∧ (t = true → x = f) ∧ (t = false → x ≠ f) := by
  by_cases h : x = f
  · exact ⟨true, lit_eq hf h, fun _ => h, fun e => absurd e (by decide)⟩
  · exact ⟨false, lit_ne hf h, fun e => absurd e (by decide), fun _ => h⟩
theorem fT_l : fT.toList = [45, 116] := by decide +kernel
theorem fW_l : fW.toList = [45, 119] := by decide +kernel
theorem fS_l : fS.toList = [45, 83] := by decide +kernel
theorem fF_l : fF.toList = [45, 70] := by decide +kernel
theorem fC_l : fC.toList = [45, 67] := by decide +kernel
/-- The key at the end of words. -/
def KeyAt (ws : List ByteArray) (k : Nat) (q : ByteArray) : Prop := (ws.length = k ∧ q = ⟨#[]⟩) ∨ (ws.length = k + 2 ∧ ws[k]? = some fK ∧ ws[k + 1]? = some (quoteS q) ∧ q.size ≤ 31)
/-- The letter's bit. -/
def permB1 (c : UInt8) : Option Nat := if c = 114 then some 4 else if c = 119 then some 2 else if c = 120 then some 1 else if c = 97 then some 8 else none
/-- The set that letters say. -/
def permL : Nat → List UInt8 → Option Nat
  | a, [] => some a
  | a, c :: l => match permB1 c with
    | some b => permL (a ||| b) l
    | none => none
theorem permL_permS {m : Int} (h : 1 ≤ m ∧ m ≤ 15) : permL 0 (permS m).data.toList = some m.toNat := by
  have H : ∀ j : Fin 16, permL 0 (permS (j.val : Int)).data.toList = some j.val := by decide +kernel
  have := H ⟨m.toNat, by omega⟩
  rwa [show (((⟨m.toNat, by omega⟩ : Fin 16).val : Nat) : Int) = m from by show ((m.toNat : Nat) : Int) = m; omega] at this
/-- The words of a shorthand. -/
theorem short_words {r0 : Rul} (h : shortB r0 = true) {ws : List ByteArray} (e : ws = flagW r0.wa :: restW r0) :
    ws[0]? = some (flagW r0.wa) ∧ ws[1]? = some (quoteS r0.pa) ∧ ws[2]? = some fP ∧ ws[3]? = some (permS r0.pe) ∧ KeyAt ws 4 r0.ke := by
  obtain ⟨h1, _⟩ := shortB_spec h
  have hke := (checkR_zero h1).key
  subst e
  unfold restW
  refine ⟨rfl, rfl, rfl, rfl, ?_⟩
  unfold keyW KeyAt
  by_cases hz : r0.ke.size = 0
  · rw [if_pos hz]; exact .inl ⟨rfl, ke_zero hz⟩
  · rw [if_neg hz]; exact .inr ⟨rfl, rfl, rfl, hke⟩
theorem key_at {r0 : Rul} {k : Nat} (hk : k = a0R r0 + 2 * (partsR r0).length) (hok : checkR r0 = 0) : KeyAt (wordsR r0) k r0.ke := key_end hk hok
end Go.Proofs.YtbbihfafkpniiaaGreatDoor
/- The small functions of the reader of the program's Parse: peek, next, word, text. -/
namespace Go.Proofs.YtbbihfafkpniiaaGreatDoor
open Go.RowKit
def nextK (n k : Nat) : Nat := if k < n then k + 1 else k
theorem nextK_in {n k : Nat} (h : k < n) : nextK n k = k + 1 := if_pos h
theorem nextK_end {n k : Nat} (h : ¬ k < n) : nextK n k = k := if_neg h
set_option maxRecDepth 100000 in
set_option maxHeartbeats 1000000 in
theorem vpeek (ws : List ByteArray) (A : Option Addr) (n c k : Nat) (b : Bool) (g : Nat) (w : World) (h : RdS w g A n c ws k b) :
    Calls Tryz.prog 51 #[.pointer (some ⟨g, 0, none⟩)] w fun e w' => e = .returned (.string (wordAt ws k)) ∧ ∃ m, w' = w.drewN m := by
  have k0 := RdB.c0 h.blk
  have k1 := RdB.c1 h.blk
  have ht := h.top
  by_cases hk : k < n
  · obtain ⟨ad, hA, _, hc⟩ := h.str k (by rw [← h.len]; exact hk)
    subst hA
    rw [← wordAt_in (by rw [← h.len]; exact hk)] at hc
    generalize wordAt ws k = x at *
    have d1 : decide ((n : Int) ≤ (k : Int)) = false := by simp; omega
    have d2 : (k : Int) < (n : Int) := by omega
    have d3 : (0 : Int) ≤ (k : Int) := by omega
    clear h
    go_enter Tryz.func51, Tryz.ntmps51
    go_wp2_with fail
    go_quiet (fail)
    go_wp2_with fail
    go_quiet (fail)
    go_wp2_with fail
    go_ret
    exact ⟨rfl, _, World.drewN_drewN _ _ _⟩
  · have HR := Lib.hid (wordAt_end (ws := ws) (k := k) (by have := h.len; omega))
    have d1 : decide ((n : Int) ≤ (k : Int)) = true := by simp; omega
    clear h
    go_enter Tryz.func51, Tryz.ntmps51
    go_wp2_with fail
    go_quiet (fail)
    go_wp2_with fail
    go_ret
    exact ⟨congrArg (fun b => Ending.returned (.string b)) HR.out.symm, _, rfl⟩
set_option maxRecDepth 100000 in
set_option maxHeartbeats 1000000 in
theorem vnext (ws : List ByteArray) (A : Option Addr) (n c k : Nat) (b : Bool) (g : Nat) (w : World) (h : RdS w g A n c ws k b) :
    Calls Tryz.prog 80 #[.pointer (some ⟨g, 0, none⟩)] w fun e w' => ∃ b', e = .returned (.string (wordAt ws k)) ∧ RdS w' g A n c ws (nextK n k) b' ∧ (k < n → b' = b) ∧ OnlyR g w w' := by
  have k0 := RdB.c0 h.blk
  have k1 := RdB.c1 h.blk
  have ht := h.top
  have H := Lib.hid h
  clear h
  by_cases hk : k < n
  · have HN := Lib.hid (nextK_in hk)
    have d1 : decide ((n : Int) ≤ (k : Int)) = false := by simp; omega
    go_enter Tryz.func80, Tryz.ntmps80
    go_wp2_with fail
    go_quiet (fail)
    have h1 := H.out.drewN nq
    have o1 := (OnlyR.refl g w).drewN nq
    clear k0 k1 d1
    generalize w.drewN nq = w1 at *
    have k1 := RdB.c1 h1.blk
    have f1 := h1.blk.free 1
    have HST := Lib.hid (h1.step hk)
    have HO := Lib.hid (o1.put 1 (.int .i64 ((k : Int) + 1)))
    have d2 : (k : Int) < (n : Int) := by omega
    have d3 : (0 : Int) ≤ (k : Int) := by omega
    have d4 : (n : Int) ≤ 100001 := by omega
    clear h1 o1
    go_wp2_with fail
    clear k1 f1
    generalize w1.setCell ⟨g, 1, none⟩ (.int .i64 ((k : Int) + 1)) = w2 at *
    have s0 := RdB.c0 HST.out.blk
    have s1 : w2.cell? ⟨g, 1, none⟩ = some (.int .i64 ((k : Int) + 1)) := by
      have := RdB.c1 HST.out.blk
      rwa [show ((k + 1 : Nat) : Int) = (k : Int) + 1 by omega] at this
    obtain ⟨ad, hA, _, hc⟩ := HST.out.str k (by have := H.out.len; omega)
    subst hA
    rw [← wordAt_in (by have := H.out.len; omega)] at hc
    have w1' : IntKind.i64.wrap ((k : Int) + 1 - 1) = (k : Int) := by rw [show (k : Int) + 1 - 1 = (k : Int) by omega]; exact IntWalk.i64_in _ (by omega)
    go_quiet (fail)
    go_wp2_with fail
    go_ret
    exact ⟨b, rfl, by rw [HN.out]; exact HST.out.drewN _, fun _ => rfl, HO.out.drewN _⟩
  · have HR := Lib.hid (wordAt_end (ws := ws) (k := k) (by have := H.out.len; omega))
    have HN := Lib.hid (nextK_end hk)
    have d1 : decide ((n : Int) ≤ (k : Int)) = true := by simp; omega
    go_enter Tryz.func80, Tryz.ntmps80
    go_wp2_with fail
    go_quiet (fail)
    have h1 := H.out.drewN nq
    have o1 := (OnlyR.refl g w).drewN nq
    clear k0 k1 d1
    generalize w.drewN nq = w1 at *
    have f1 := h1.blk.free 2
    have k2 := RdB.c2 h1.blk
    have HST := Lib.hid h1.bad
    have HO := Lib.hid (o1.put 2 (.bool true))
    clear h1 o1
    go_wp2_with fail
    go_ret
    exact ⟨true, congrArg (fun b => Ending.returned (.string b)) HR.out.symm, by rw [HN.out]; exact HST.out, fun h => absurd h hk, HO.out⟩
set_option maxRecDepth 100000 in
set_option maxHeartbeats 1000000 in
theorem vword (ws : List ByteArray) (A : Option Addr) (n c k : Nat) (b : Bool) (g : Nat) (f : ByteArray) (w : World) (h : RdS w g A n c ws k b) :
    Calls Tryz.prog 82 #[.pointer (some ⟨g, 0, none⟩), .string f] w fun e w' => ∃ b', e = .returned (.tuple #[]) ∧ RdS w' g A n c ws (nextK n k) b' ∧ (ws[k]? = some f → b' = b) ∧ OnlyR g w w' := by
  have H := Lib.hid h
  clear h
  go_enter Tryz.func82, Tryz.ntmps82
  go_wp2_with fail
  refine (vnext ws A n c k b g _ H.out).mono ?_
  rintro e w1 ⟨b1, rfl, h1, hb, ho⟩
  have HB := Lib.hid hb
  have HO := Lib.hid ho
  clear hb ho
  by_cases he : wordAt ws k = f
  · have t1 := str_eq he
    have HS := Lib.hid h1
    clear h1 he
    go_wp2_with fail
    go_end0
    exact ⟨b1, rfl, HS.out, fun h => HB.out (by have := (wordAt_some h).2; have := H.out.len; omega), HO.out⟩
  · have t1 := str_ne he
    have HNE := Lib.hid he
    have k2 := RdB.c2 h1.blk
    have f2 := h1.blk.free 2
    have HS := Lib.hid h1.bad
    have HO2 := Lib.hid (HO.out.put 2 (.bool true))
    clear h1 he
    go_wp2_with fail
    go_end0
    exact ⟨true, rfl, HS.out, fun h => absurd (wordAt_some h).1 HNE.out, HO2.out⟩
attribute [local irreducible] unqS unqE quoteS
set_option maxRecDepth 100000 in
set_option maxHeartbeats 1000000 in
theorem vtext (ws : List ByteArray) (A : Option Addr) (n c k : Nat) (b : Bool) (g : Nat) (s : ByteArray) (hs : s.size ≤ 1000000) (w : World) (h : RdS w g A n c ws k b) (ht : Tab w) :
    Calls Tryz.prog 81 #[.pointer (some ⟨g, 0, none⟩), .string s] w fun e w' => ∃ b', e = .returned (.string (unqS s)) ∧ RdS w' g A n c ws k b' ∧ (unqE s = 0 → b' = b) ∧ OnlyR g w w' := by
  have H := Lib.hid h
  clear h
  go_enter Tryz.func81, Tryz.ntmps81
  go_wp2_with fail
  refine (vunquote s _ hs ht).mono ?_
  rintro e w1 ⟨rfl, hb⟩
  have h1 := H.out.below hb
  have HO := Lib.hid ((OnlyR.refl g w).then hb)
  clear hb
  by_cases he : unqE s = 0
  · have t1 : (unqE s != 0) = false := by rw [he]; rfl
    have HS := Lib.hid h1
    clear h1 he
    go_wp2_with fail
    go_ret
    exact ⟨b, rfl, HS.out, fun _ => rfl, HO.out⟩
  · have t1 : (unqE s != 0) = true := by simpa using he
    have HNE := Lib.hid he
    have k2 := RdB.c2 h1.blk
    have f2 := h1.blk.free 2
    have HS := Lib.hid h1.bad
    have HO2 := Lib.hid (HO.out.put 2 (.bool true))
    clear h1 he
    go_wp2_with fail
    go_ret
    exact ⟨true, rfl, HS.out, fun h => absurd h HNE.out, HO2.out⟩
end Go.Proofs.YtbbihfafkpniiaaGreatDoor

/- Texts of one proof, laid together. -/
import Derived.Test.YtollifnnpihfdaaGreatDoorC23
import Derived.Deep.RegionHeld3
/- Format of the reference's rules: plain facts, and its key. -/
namespace Go.Proofs.YtollifnnpihfdaaGreatDoor
open Go.RowKit
/-- What the reference's Format keeps: the text so far, the rule's box. -/
structure RSt (w wr : World) (r : Rul) (s : Value) (v : Value) (T : ByteArray) : Prop where
  v : v = .string T
  g : RulB wr w.heap.size r s
  low : Below w.heap.size w wr
theorem RSt.below {w wr w' : World} {r : Rul} {s v : Value} {T : ByteArray} (h : RSt w wr r s v T) (hb : Below wr.heap.size wr w') : RSt w w' r s v T := ⟨h.v, Blk.below h.g hb, below_then h.low hb⟩
theorem text_head (X Y : ByteArray) : (⟨#[45, 97, 32]⟩ : ByteArray) ++ X ++ ⟨#[44]⟩ ++ Y = catW fA [X ++ ⟨#[44]⟩ ++ Y] := by
  show _ = fA ++ ((⟨#[32]⟩ : ByteArray) ++ (X ++ ⟨#[44]⟩ ++ Y))
  apply ByteArray.ext; simp [fA]
theorem catW_two (x : ByteArray) (L : List ByteArray) (f t : ByteArray) : catW x (L ++ [f, t]) = catW x L ++ ((⟨#[32]⟩ ++ f ++ ⟨#[32]⟩) ++ t) := by
  rw [show L ++ [f, t] = (L ++ [f]) ++ [t] by simp, catW_snoc, catW_snoc]
  apply ByteArray.ext; simp
theorem text_S (T : ByteArray) (x : ByteArray) (L : List ByteArray) (X : ByteArray) (h : T = catW x L) : T ++ ((⟨#[32, 45, 83, 32]⟩ : ByteArray) ++ X) = catW x (L ++ [fS, X]) := by rw [catW_two, h]; rfl
theorem text_C (T : ByteArray) (x : ByteArray) (L : List ByteArray) (X : ByteArray) (h : T = catW x L) : T ++ ((⟨#[32, 45, 67, 32]⟩ : ByteArray) ++ X) = catW x (L ++ [fC, X]) := by rw [catW_two, h]; rfl
theorem text_F (T : ByteArray) (x : ByteArray) (L : List ByteArray) (X : ByteArray) (h : T = catW x L) : T ++ ((⟨#[32, 45, 70, 32]⟩ : ByteArray) ++ X) = catW x (L ++ [fF, X]) := by rw [catW_two, h]; rfl
theorem text_K (T : ByteArray) (x : ByteArray) (L : List ByteArray) (X : ByteArray) (h : T = catW x L) : T ++ ((⟨#[32, 45, 107, 32]⟩ : ByteArray) ++ X) = catW x (L ++ [fK, X]) := by rw [catW_two, h]; rfl
theorem text_path (T : ByteArray) (x : ByteArray) (L : List ByteArray) (Q P : ByteArray) (h : T = catW x L) : T ++ ((⟨#[32, 45, 70, 32, 112, 97, 116, 104, 61]⟩ : ByteArray) ++ Q ++ ⟨#[32, 45, 70, 32, 112, 101, 114, 109, 61]⟩ ++ P) = catW x (L ++ [fF, pathW ++ Q, fF, permW ++ P]) := by
  rw [show L ++ [fF, pathW ++ Q, fF, permW ++ P] = (L ++ [fF, pathW ++ Q]) ++ [fF, permW ++ P] by simp, catW_two, catW_two, h]
  apply ByteArray.ext; apply Array.ext'; simp [fF, pathW, permW]
theorem text_dir (T : ByteArray) (x : ByteArray) (L : List ByteArray) (Q P : ByteArray) (h : T = catW x L) : T ++ ((⟨#[32, 45, 70, 32, 100, 105, 114, 61]⟩ : ByteArray) ++ Q ++ ⟨#[32, 45, 70, 32, 112, 101, 114, 109, 61]⟩ ++ P) = catW x (L ++ [fF, dirW ++ Q, fF, permW ++ P]) := by
  rw [show L ++ [fF, dirW ++ Q, fF, permW ++ P] = (L ++ [fF, dirW ++ Q]) ++ [fF, permW ++ P] by simp, catW_two, catW_two, h]
  apply ByteArray.ext; apply Array.ext'; simp [fF, dirW, permW]
/-- What the reference's key returns. -/
def keyT (k : ByteArray) : ByteArray := if k.size = 0 then ⟨#[]⟩ else ⟨#[32, 45, 107, 32]⟩ ++ quoteS k
theorem text_key (x : ByteArray) (L : List ByteArray) (k : ByteArray) : catW x L ++ keyT k = catW x (L ++ keyW k) := by
  unfold keyT keyW
  split
  · rw [List.append_nil]; apply ByteArray.ext; simp
  · exact text_K _ x L _ rfl
theorem keyT_size (k : ByteArray) (h : k.size ≤ 31) : (keyT k).size ≤ 1400 := by
  unfold keyT
  split
  · decide
  · have := quoteS_leF k (by omega)
    rw [ByteArray.size_append]
    have e : (⟨#[32, 45, 107, 32]⟩ : ByteArray).size = 4 := rfl
    omega
theorem text_pre {r : Rul} (h : GoodR r) (L M : List ByteArray) (e : restR r = L ++ M) : (catW fA L).size ≤ 70000 := by
  have hr := rest_size h
  have hs := catW_size 2100 L fA (fun t ht => hr.1 t (by rw [e]; exact List.mem_append_left _ ht))
  have hl : L.length ≤ 30 := by have := hr.2; rw [e, List.length_append] at this; omega
  have h2 : L.length * 2101 ≤ 30 * 2101 := Nat.mul_le_mul_right _ hl
  have e1 : fA.size = 2 := rfl
  omega
theorem testsW_split (ts : List Tst) (k : Nat) : testsW ts ts.length = testsW ts k ++ partW ((ts.drop k).map .tst) := by
  unfold testsW partW
  rw [List.take_length, ← List.flatMap_append, ← List.map_append, List.take_append_drop]
attribute [local irreducible] checkF watchB callsB firstE checkR cleanB callsOk textR headW maskS quoteS testS anyE permS catW listN actN cellsAc cellsLi keyT
set_option maxRecDepth 100000 in
set_option maxHeartbeats 4000000 in
theorem rkey (r : Rul) (A : Option Addr) (n c : Nat) (hk : r.ke.size ≤ 31) (w : World) : Calls Tryz.prog 131 #[rulV r (.slice A n c)] w fun e w' => e = .returned (.string (keyT r.ke)) ∧ Below w.heap.size w w' := by
  obtain ⟨HG0, HB0⟩ := rul_box w r (.slice A n c)
  have HB := Lib.hid HB0
  have HQ := Lib.hid (fun W => rquoteR r.ke W (by unfold maxLen; omega))
  have hkq : (quoteS r.ke).size ≤ 1300 := quoteS_leF r.ke (by omega)
  clear HG0 HB0
  by_cases hz : r.ke.size = 0
  · have ek := emptyF hz
    have HT := Lib.hid (show keyT r.ke = ⟨#[]⟩ by unfold keyT; rw [if_pos hz])
    have hks : r.ke.toList.isEmpty = true := by rw [ek]; rfl
    go_enter Tryz.func131, Tryz.ntmps131
    go_wp2_with fail
    go_ret
    exact ⟨congrArg (fun b => Ending.returned (.string b)) HT.out.symm, HB.out⟩
  · have ek := nonemptyF hz
    have ek2 : r.ke.toList.isEmpty = false := by simpa using ek
    have HT := Lib.hid (show keyT r.ke = ⟨#[32, 45, 107, 32]⟩ ++ quoteS r.ke by unfold keyT; rw [if_neg hz])
    go_enter Tryz.func131, Tryz.ntmps131
    go_wp2_with fail
    refine (HQ.out _).mono ?_
    rintro e w1 ⟨rfl, hb1⟩
    go_wp2_with fail
    go_ret
    exact ⟨congrArg (fun b => Ending.returned (.string b)) HT.out.symm, below_then HB.out hb1⟩
end Go.Proofs.YtollifnnpihfdaaGreatDoor

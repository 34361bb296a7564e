/- Plain facts on lists of bytes, with no program in sight. -/
import Derived.WalkKit
import Derived.Laws.Strings
namespace Go.Proofs.YtollifnnpihfdaaDoor
theorem retB {a b : Bool} (h : a = b) : Ending.returned (.bool a) = .returned (.bool b) := by rw [h]
theorem retI {k : IntKind} {a b : Int} (h : a = b) : Ending.returned (.int k a) = .returned (.int k b) := by rw [h]
theorem retS {a b : ByteArray} (h : a = b) : Ending.returned (.string a) = .returned (.string b) := by rw [h]
/-- A byte that may stand between quotation marks. -/
def okc (c : UInt8) : Bool := decide (33 ≤ c.toNat) && decide (c.toNat ≤ 126) && decide (c.toNat ≠ 34)
def safeB (l : List UInt8) : Bool := l.all okc
theorem take_snoc (s : ByteArray) (k : Nat) (h : k < s.size) : s.data.toList.take (k + 1) = s.data.toList.take k ++ [s[k]] := by
  rw [List.take_succ_eq_append_getElem (by simpa using h)]; rfl
theorem take_all (s : ByteArray) (k : Nat) (h : s.size ≤ k) : s.data.toList.take k = s.data.toList :=
  List.take_of_length_le (by simpa using h)
theorem safe_snoc (l : List UInt8) (c : UInt8) : safeB (l ++ [c]) = (safeB l && okc c) := by simp [safeB, List.all_append]
theorem okc_true {c : UInt8} (h1 : 33 ≤ (c.toNat : Int)) (h2 : (c.toNat : Int) ≤ 126) (h3 : ((c.toNat : Int) == 34) = false) : okc c = true := by
  have : (c.toNat : Int) ≠ 34 := by simpa using h3
  unfold okc; simp; omega
theorem okc_true_inv {c : UInt8} (h : okc c = true) : 33 ≤ (c.toNat : Int) ∧ (c.toNat : Int) ≤ 126 ∧ ((c.toNat : Int) == 34) = false := by
  unfold okc at h; simp at h; refine ⟨by omega, by omega, by simp; omega⟩
theorem safe_step (s : ByteArray) (k : Nat) (h : k < s.size) (hp : safeB (s.data.toList.take k) = true) (hc : okc s[k] = true) : safeB (s.data.toList.take (k + 1)) = true := by
  rw [take_snoc s k h, safe_snoc, hp, hc]; rfl
theorem safe_stop (s : ByteArray) (k : Nat) (h : k < s.size) (hc : okc s[k] = false) : safeB s.data.toList = false := by
  rw [← Bool.not_eq_true]; intro hall
  have := (List.all_eq_true.1 hall) s[k] (Array.mem_toList_iff.2 (Array.getElem_mem (xs := s.data) h))
  rw [hc] at this; cases this
/-- The hexadecimal digit of a number below 16. -/
def hexd (n : Nat) : UInt8 := if n < 10 then UInt8.ofNat (48 + n) else UInt8.ofNat (87 + n)
def hex2 (c : UInt8) : List UInt8 := [hexd (c.toNat / 16), hexd (c.toNat % 16)]
def hexL (l : List UInt8) : List UInt8 := l.flatMap hex2
def quoteL (l : List UInt8) : List UInt8 := if safeB l then 34 :: (l ++ [34]) else 120 :: hexL l
def quoteS (s : ByteArray) : ByteArray := if 640 < s.size then ⟨#[]⟩ else ⟨(quoteL s.data.toList).toArray⟩
def quoteE (s : ByteArray) : Int := if 640 < s.size then 20 else 0
theorem hexL_snoc (l : List UInt8) (c : UInt8) : hexL (l ++ [c]) = hexL l ++ hex2 c := by simp [hexL]
theorem hexL_length (l : List UInt8) : (hexL l).length = 2 * l.length := by
  induction l with
  | nil => rfl
  | cons c l ih =>
    have e : hexL (c :: l) = hex2 c ++ hexL l := rfl
    rw [e, List.length_append, ih, List.length_cons]; simp only [hex2, List.length_cons, List.length_nil]; omega
theorem str_ne {a b : ByteArray} (h : a ≠ b) : (a.toList == b.toList) = false := by
  rw [ByteArray.toList_eq, ByteArray.toList_eq, beq_eq_false_iff_ne]
  exact fun e => h (ByteArray.ext (Array.toList_inj.1 e))
theorem str_eq {a b : ByteArray} (h : a = b) : (a.toList == b.toList) = true := by rw [h]; simp
abbrev bv (c : UInt8) : Value := .int .u8 (c.toNat : Int)
end Go.Proofs.YtollifnnpihfdaaDoor

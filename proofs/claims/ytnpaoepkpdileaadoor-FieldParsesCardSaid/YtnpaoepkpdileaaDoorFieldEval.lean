/- The truth of tests of a context: plain functions and their laws. -/
import Derived.Test.YtnpaoepkpdileaaDoorFieldPlain
import Derived.Laws.Entries
namespace Go.Proofs.YtnpaoepkpdileaaDoor
/-- What a context says: the phase, the identities, the call's numbers, the exit, the type, the two texts. -/
structure Ctx where
  ph : Int
  p : Nat → Int
  a : Nat → Int
  ex : Int
  ty : Int
  comm : ByteArray
  exe : ByteArray
structure Itm where
  dev : Int
  ino : Int
  uid : Int
  gid : Int
  kind : Int
def Itm.none : Itm := ⟨0, 0, 0, 0, 0⟩
/-- The value of a number field. -/
def valF (c : Ctx) (i : Itm) (f : Int) : Int :=
  if f ≤ 8 then c.p (f - 1).toNat
  else if f ≤ 12 then c.a (f - 9).toNat
  else if f = 15 then c.ex
  else if f = 16 then (if 0 ≤ c.ex then 1 else 0)
  else if f = 17 then i.ino
  else if f = 18 then i.dev
  else if f = 19 then i.uid
  else if f = 20 then i.gid
  else if f = 21 then i.kind
  else c.ty
def hasF (c : Ctx) (f : Int) : Bool := if 15 ≤ f ∧ f ≤ 21 then decide (c.ph = 2) else decide (f ≠ 22 ∨ c.ty ≠ 0)
def andI (a b : Int) : Int := bits .and .i64 a b
def cmpF (op a b : Int) : Bool :=
  if op = 1 then a == b else if op = 2 then a != b else if op = 3 then decide (a < b) else if op = 4 then decide (a ≤ b)
  else if op = 5 then decide (b < a) else if op = 6 then decide (b ≤ a) else if op = 7 then andI a b != 0 else andI a b == b
def soundB (fd op nu : Int) (tx : ByteArray) (ot : Int) : Bool :=
  decide (checkF fd op nu tx ot 1 = 0) || (decide (checkF fd op nu tx ot 2 = 0) || (decide (checkF fd op nu tx ot 3 = 0) || (decide (checkF fd op nu tx ot 4 = 0) || decide (checkF fd op nu tx ot 5 = 0))))
def holdsF (c : Ctx) (fd op nu : Int) (tx : ByteArray) (ot : Int) (i : Itm) : Bool :=
  if textB fd = true then (((if fd = 14 then c.comm else c.exe).toList == tx.toList) == decide (op = 1)) else cmpF op (valF c i fd) (if ot = 0 then nu else valF c i ot)
def liveB (i : Itm) : Bool := decide (i.dev ≠ 0 ∨ i.ino ≠ 0)
/-- The truth of a test, as the reference asks for it. -/
def evalF (c : Ctx) (L : List Itm) (fd op nu : Int) (tx : ByteArray) (ot : Int) : Bool :=
  if soundB fd op nu tx ot = false ∨ hasF c fd = false ∨ (ot ≠ 0 ∧ hasF c ot = false) then false
  else if itemB fd = false ∧ itemB ot = false then holdsF c fd op nu tx ot Itm.none
  else L.any fun i => liveB i && holdsF c fd op nu tx ot i
/-- The program's: a field that the context has not makes the test false where it is read. -/
def holdsP (c : Ctx) (fd op nu : Int) (tx : ByteArray) (ot : Int) (i : Itm) : Bool :=
  if textB fd = false ∧ (hasF c fd = false ∨ (ot ≠ 0 ∧ hasF c ot = false)) then false else holdsF c fd op nu tx ot i
def evalP (c : Ctx) (L : List Itm) (fd op nu : Int) (tx : ByteArray) (ot : Int) : Bool :=
  if soundB fd op nu tx ot = false then false
  else if itemB fd = false ∧ itemB ot = false then holdsP c fd op nu tx ot Itm.none
  else L.any fun i => liveB i && holdsP c fd op nu tx ot i
theorem sound_some {fd op nu : Int} {tx : ByteArray} {ot : Int} (h : soundB fd op nu tx ot = true) : ∃ l, checkF fd op nu tx ot l = 0 := by
  unfold soundB at h
  simp only [Bool.or_eq_true, decide_eq_true_eq] at h
  rcases h with h | h | h | h | h
  · exact ⟨_, h⟩
  · exact ⟨_, h⟩
  · exact ⟨_, h⟩
  · exact ⟨_, h⟩
  · exact ⟨_, h⟩
theorem text_has {c : Ctx} {f : Int} (h : textB f = true) : hasF c f = true := by
  unfold textB at h
  unfold hasF
  simp at h
  rw [if_neg (by omega)]
  simp; omega
theorem eval_same (c : Ctx) (L : List Itm) (fd op nu : Int) (tx : ByteArray) (ot : Int) : evalP c L fd op nu tx ot = evalF c L fd op nu tx ot := by
  cases hs : soundB fd op nu tx ot
  · unfold evalP evalF
    rw [if_pos hs, if_pos (.inl hs)]
  · obtain ⟨l, hl⟩ := sound_some hs
    obtain ⟨h1, h2, h3, h4, h5, h6, h7⟩ := checkF_zero hl
    have ht : textB fd = true → ot = 0 := fun h => by
      rcases h2 with h2 | h2
      · exact h2
      · have := owner_text h2.2.1; rw [h] at this; cases this
    have hns : ¬ soundB fd op nu tx ot = false := by rw [hs]; decide
    have eP : evalP c L fd op nu tx ot = if itemB fd = false ∧ itemB ot = false then holdsP c fd op nu tx ot Itm.none else L.any fun i => liveB i && holdsP c fd op nu tx ot i := by unfold evalP; rw [if_neg hns]
    by_cases hbad : hasF c fd = false ∨ (ot ≠ 0 ∧ hasF c ot = false)
    · have htx : textB fd = false := by
        cases hx : textB fd
        · rfl
        · rcases hbad with hb | hb
          · rw [text_has hx] at hb; cases hb
          · exact absurd (ht hx) hb.1
      have hp : ∀ i, holdsP c fd op nu tx ot i = false := fun i => by unfold holdsP; rw [if_pos ⟨htx, hbad⟩]
      have eF : evalF c L fd op nu tx ot = false := by unfold evalF; rw [if_pos (.inr hbad)]
      rw [eP, eF]
      simp [hp]
    · have hp : ∀ i, holdsP c fd op nu tx ot i = holdsF c fd op nu tx ot i := fun i => by unfold holdsP; rw [if_neg (fun h => hbad h.2)]
      have eF : evalF c L fd op nu tx ot = if itemB fd = false ∧ itemB ot = false then holdsF c fd op nu tx ot Itm.none else L.any fun i => liveB i && holdsF c fd op nu tx ot i := by
        unfold evalF
        rw [if_neg]
        rintro (h | h)
        · exact hns h
        · exact hbad h
      rw [eP, eF]
      simp [hp]
end Go.Proofs.YtnpaoepkpdileaaDoor

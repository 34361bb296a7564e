/- Texts of one proof, laid together. -/
import Derived.Test.YtollifnnpihfdaaGreatDoorC13
import Derived.Test.YtollifnnpihfdaaGreatDoorC07
import Derived.Test.YtollifnnpihfdaaGreatDoorC05
import Derived.Laws.Entries
/- checkAny and Format of the program, Format of the reference. -/
namespace Go.Proofs.YtollifnnpihfdaaGreatDoor
open Go.RowKit
theorem numS_lenF (n : Int) (h0 : -9223372036854775808 ≤ n) (h1 : n ≤ 9223372036854775807) : (numS n).size ≤ 20 := by
  have e : (numS n).size = (Lib.itoa n).length := by show (Lib.itoa n).toArray.size = _; simp
  rw [e]; unfold Lib.itoa; split
  · have := dec_len n.natAbs (by omega)
    simp; omega
  · have := dec_len n.toNat (by omega)
    omega
theorem quoteS_leF (t : ByteArray) (h : t.size ≤ 640) : (quoteS t).size ≤ 1300 := by
  have e : (quoteS t).size = (quoteL t.data.toList).length := by
    unfold quoteS; rw [if_neg (by omega)]; show (quoteL t.data.toList).toArray.size = _; simp
  have e2 : t.data.toList.length = t.size := Array.length_toList
  rw [e]
  unfold quoteL; split
  · simp; omega
  · simp [hexL_length]; omega
theorem field_len (k : Nat) : (fieldN k).size ≤ 8 := by
  by_cases h : k < 23
  · have H : ∀ m : Fin 23, (fieldN m).size ≤ 8 := by decide +kernel
    exact H ⟨k, h⟩
  · have : fieldN k = ⟨#[]⟩ := by unfold fieldN; rw [List.getD_eq_getElem?_getD, List.getElem?_eq_none (by show 23 ≤ k; omega)]; rfl
    rw [this]; decide
theorem op_len (k : Nat) : (opN k).size ≤ 2 := by
  by_cases h : k < 9
  · have H : ∀ m : Fin 9, (opN m).size ≤ 2 := by decide +kernel
    exact H ⟨k, h⟩
  · have : opN k = ⟨#[]⟩ := by unfold opN; rw [List.getD_eq_getElem?_getD, List.getElem?_eq_none (by show 9 ≤ k; omega)]; rfl
    rw [this]; decide
theorem boxT (w : World) (fd op nu : Int) (tx : ByteArray) (ot : Int) : Blk (w.alloc (.cells (testC fd op nu tx ot) 85)) w.heap.size 85 (testC fd op nu tx ot) ∧ Below w.heap.size w (w.alloc (.cells (testC fd op nu tx ot) 85)) := ⟨Blk.new w _ _, (Below.refl _ _).alloc (Nat.le_refl _) _⟩
theorem test_cells {w : World} {g : Nat} {fd op nu : Int} {tx : ByteArray} {ot : Int} (h : Blk w g 85 (testC fd op nu tx ot)) : w.cell? ⟨g, 0, none⟩ = some (.int .i64 fd) ∧ w.cell? ⟨g, 1, none⟩ = some (.int .i64 op) ∧ w.cell? ⟨g, 2, none⟩ = some (.int .i64 nu) ∧ w.cell? ⟨g, 3, none⟩ = some (.string tx) ∧ w.cell? ⟨g, 4, none⟩ = some (.int .i64 ot) := ⟨h.cell 0, h.cell 1, h.cell 2, h.cell 3, h.cell 4⟩
theorem testS_nat {kf ko : Nat} {nu : Int} {tx : ByteArray} {ot : Int} (h : anyE kf ko nu tx ot = 0) : testS kf ko nu tx ot = fieldN kf ++ opN ko ++ valS kf nu tx ot := by unfold testS; rw [if_pos h]; simp
attribute [local irreducible] checkF fieldN opN quoteS numS cellsN cellsO
set_option maxHeartbeats 1000000 in
theorem vanyF (fd op nu : Int) (tx : ByteArray) (ot : Int) (hx : tx.size ≤ maxLen) (w : World) : Calls Tryz.prog 182 #[testV fd op nu tx ot] w fun e w' => e = .returned (.int .i64 (anyE fd op nu tx ot)) ∧ Below w.heap.size w w' := by
  obtain ⟨hT, hB⟩ := boxT w fd op nu tx ot
  have HK := Lib.hid (fun l W => vcheckF fd op nu tx ot l hx W)
  go_enter Tryz.func182, Tryz.ntmps182
  go_wp2_with fail
  refine (HK.out _ _).mono ?_
  rintro e w1 ⟨rfl, hb⟩
  obtain ⟨q0, q1, q2, q3, q4⟩ := test_cells (hT.below hb)
  have HB1 := Lib.hid (hB.trans (hb.mono hB.size))
  clear hT hB hb
  by_cases h3 : checkF fd op nu tx ot 3 = 0
  · have HE := Lib.hid (show anyE fd op nu tx ot = 0 by unfold anyE; rw [if_neg (by simp [h3]), h3])
    rw [h3]
    clear h3
    go_wp2_with fail
    go_ret
    exact ⟨ret_i HE.out.symm, HB1.out⟩
  · have b3 : (checkF fd op nu tx ot 3 != 0) = true := by simpa using h3
    have H3 := Lib.hid h3
    clear h3
    go_wp2_with fail
    refine (HK.out _ _).mono ?_
    rintro e w2 ⟨rfl, hb⟩
    have HB2 := Lib.hid (below_then HB1.out hb)
    clear hb
    by_cases h5 : checkF fd op nu tx ot 5 = 0
    · have HE := Lib.hid (show anyE fd op nu tx ot = 0 by unfold anyE; rw [if_pos ⟨H3.out, h5⟩])
      rw [h5]
      clear h5
      go_wp2_with fail
      go_ret
      exact ⟨ret_i HE.out.symm, HB2.out⟩
    · have HE := Lib.hid (show anyE fd op nu tx ot = checkF fd op nu tx ot 3 by unfold anyE; rw [if_neg (fun h => h5 h.2)])
      have b5 : (checkF fd op nu tx ot 5 == 0) = false := by simpa using h5
      clear h5
      go_wp2_with fail
      go_ret
      exact ⟨ret_i HE.out.symm, HB2.out⟩
attribute [local irreducible] anyE
set_option maxRecDepth 100000 in
set_option maxHeartbeats 4000000 in
theorem vformatF (fd op nu : Int) (tx : ByteArray) (ot : Int) (hi : I64 nu) (hx : tx.size ≤ maxLen) (w : World) (hn : FNames w) (ho : FOps w) (ht : Tab w) (hp : Pow w) : Calls Tryz.prog 121 #[testV fd op nu tx ot] w fun e w' => e = .returned (.tuple #[.string (testS fd op nu tx ot), .int .i64 (anyE fd op nu tx ot)]) ∧ Below w.heap.size w w' := by
  obtain ⟨hT, hB⟩ := boxT w fd op nu tx ot
  have HA := Lib.hid (fun W => vanyF fd op nu tx ot hx W)
  have HN := Lib.hid (fun (W : World) (h : Below w.heap.size w W) => Glob.below hn h (Nat.le_refl _))
  have HO := Lib.hid (fun (W : World) (h : Below w.heap.size w W) => Glob.below ho h (Nat.le_refl _))
  have HTB := Lib.hid (fun (W : World) (h : Below w.heap.size w W) => ht.below h (Nat.le_refl _))
  have HPW := Lib.hid (fun (W : World) (h : Below w.heap.size w W) => hp.below h (Nat.le_refl _))
  clear hn ho ht hp
  go_enter Tryz.func121, Tryz.ntmps121
  go_wp2_with fail
  refine (HA.out _).mono ?_
  rintro e w1 ⟨rfl, hb⟩
  have hT1 := hT.below hb
  have hB1 := hB.trans (hb.mono hB.size)
  obtain ⟨q0, q1, q2, q3, q4⟩ := test_cells hT1
  clear hT hB hb
  by_cases h0 : anyE fd op nu tx ot = 0
  · obtain ⟨l, hl⟩ := anyE_zero h0
    obtain ⟨c1, c2, c3, c4, c5, c6, c7⟩ := checkF_zero hl
    have r1 := allow_range c1
    obtain ⟨kf, rfl⟩ := Int.eq_ofNat_of_zero_le (show 0 ≤ fd by omega)
    obtain ⟨ko, rfl⟩ := Int.eq_ofNat_of_zero_le (show 0 ≤ op by omega)
    have HS := Lib.hid (testS_nat h0)
    have HZ := Lib.hid h0
    rw [h0]
    have n1 : w1.cell? ⟨3, kf, none⟩ = some (.string (fieldN kf)) := FNames.at (HN.out _ hB1) (by omega)
    have n2 : w1.cell? ⟨4, ko, none⟩ = some (.string (opN ko)) := FOps.at (HO.out _ hB1) (by omega)
    have z1 := field_len kf
    have z2 := op_len ko
    have lf : (kf : Int) < 23 := by omega
    have lo : (ko : Int) < 9 := by omega
    have HB1 := Lib.hid hB1
    have HC2 := Lib.hid c2
    have HC6 := Lib.hid c6
    clear hT1 hB1 h0 hl c1 c2 c3 c4 c5 c6 c7 r1
    go_wp2_with fail
    go_quiet (fail)
    clear n2 lf lo
    by_cases hot : ot = 0
    · subst hot
      cases htx : textB (kf : Int)
      · have HV := Lib.hid (show valS kf nu tx 0 = numS nu by unfold valS; rw [if_neg (by simp), if_neg (by rw [htx]; decide)])
        have CT := Lib.hid (fun W => vtextF kf W)
        rw [htx] at CT
        have HI := Lib.hid (fun W hb => vitoa nu hi.1 hi.2 W (HPW.out W hb))
        have z3 := numS_lenF nu hi.1 hi.2
        clear htx
        go_wp2_with fail
        refine (CT.out _).mono ?_
        rintro e w2 ⟨rfl, rfl⟩
        go_wp2_with fail
        refine (HI.out _ (by exact below_drewN HB1.out _)).mono ?_
        rintro e w3 ⟨rfl, hb⟩
        have HB2 := Lib.hid (below_then (below_drewN HB1.out _) hb)
        have z4 : (fieldN kf ++ opN ko).size ≤ 10 := by rw [ByteArray.size_append]; omega
        have z5 : (fieldN kf ++ opN ko).size + (numS nu).size ≤ 9223372036854775807 := by omega
        go_wp2_with fail
        go_ret2
        exact ⟨tup (by rw [HS.out, HV.out]) HZ.out.symm, HB2.out⟩
      · have HV := Lib.hid (show valS kf nu tx 0 = quoteS tx by unfold valS; rw [if_neg (by simp), if_pos htx])
        have CT := Lib.hid (fun W => vtextF kf W)
        rw [htx] at CT
        have HQ := Lib.hid (fun W hb => vquote tx W hx (HTB.out W hb))
        have hs6 : tx.size ≤ 640 := by rcases HC6.out with h | h; rw [htx] at h; cases h; exact h.2.2
        have HQE := Lib.hid (show quoteE tx = 0 by unfold quoteE; rw [if_neg (by omega)])
        rw [HQE.out] at HQ
        have z3 := quoteS_leF tx hs6
        clear htx
        go_wp2_with fail
        refine (CT.out _).mono ?_
        rintro e w2 ⟨rfl, rfl⟩
        go_wp2_with fail
        refine (HQ.out _ (by exact below_drewN HB1.out _)).mono ?_
        rintro e w3 ⟨rfl, hb⟩
        have HB2 := Lib.hid (below_then (below_drewN HB1.out _) hb)
        have z4 : (fieldN kf ++ opN ko).size ≤ 10 := by rw [ByteArray.size_append]; omega
        have z5 : (fieldN kf ++ opN ko).size + (quoteS tx).size ≤ 9223372036854775807 := by omega
        go_wp2_with fail
        go_ret2
        exact ⟨tup (by rw [HS.out, HV.out]) HZ.out.symm, HB2.out⟩
    · have r2 := allow_range (HC2.out.resolve_left hot).1
      have HV := Lib.hid (show valS kf nu tx ot = fieldN ot.toNat by unfold valS; rw [if_pos hot])
      obtain ⟨kt, rfl⟩ := Int.eq_ofNat_of_zero_le (show 0 ≤ ot by omega)
      have n3 : w1.cell? ⟨3, kt, none⟩ = some (.string (fieldN kt)) := FNames.at (HN.out _ HB1.out) (by omega)
      have lt : (kt : Int) < 23 := by omega
      have b0 : ((kt : Int) != 0) = true := by simpa using hot
      have z3 := field_len kt
      have z4 : (fieldN kf ++ opN ko).size ≤ 10 := by rw [ByteArray.size_append]; omega
      clear hot
      go_wp2_with fail
      go_ret2
      exact ⟨tup (by rw [HS.out, HV.out]; rfl) HZ.out.symm, below_drewN HB1.out _⟩
  · have HZ := Lib.hid (show testS fd op nu tx ot = ⟨#[]⟩ by unfold testS; rw [if_neg h0])
    have b0 : (anyE fd op nu tx ot != 0) = true := by simpa using h0
    clear h0
    go_wp2_with fail
    go_ret2
    exact ⟨tup HZ.out.symm rfl, hB1⟩
end Go.Proofs.YtollifnnpihfdaaGreatDoor
/- The truth of tests of a context: plain functions and their laws. -/
namespace Go.Proofs.YtollifnnpihfdaaGreatDoor
/-- What a context says: the phase, the identities, the call's numbers, the exit, the type, the two texts. -/
structure Ctx where
  ph : Int
  p : Nat → Int
  a : Nat → Int
  ex : Int
  ty : Int
  comm : ByteArray
  exe : ByteArray
structure Itm where
  dev : Int
  ino : Int
  uid : Int
  gid : Int
  kind : Int
def Itm.none : Itm := ⟨0, 0, 0, 0, 0⟩
/-- The value of a number field. -/
def valF (c : Ctx) (i : Itm) (f : Int) : Int :=
  if f ≤ 8 then c.p (f - 1).toNat
  else if f ≤ 12 then c.a (f - 9).toNat
  else if f = 15 then c.ex
  else if f = 16 then (if 0 ≤ c.ex then 1 else 0)
  else if f = 17 then i.ino
  else if f = 18 then i.dev
  else if f = 19 then i.uid
  else if f = 20 then i.gid
  else if f = 21 then i.kind
  else c.ty
def hasF (c : Ctx) (f : Int) : Bool := if 15 ≤ f ∧ f ≤ 21 then decide (c.ph = 2) else decide (f ≠ 22 ∨ c.ty ≠ 0)
def andI (a b : Int) : Int := bits .and .i64 a b
def cmpF (op a b : Int) : Bool :=
  if op = 1 then a == b else if op = 2 then a != b else if op = 3 then decide (a < b) else if op = 4 then decide (a ≤ b)
  else if op = 5 then decide (b < a) else if op = 6 then decide (b ≤ a) else if op = 7 then andI a b != 0 else andI a b == b
def soundB (fd op nu : Int) (tx : ByteArray) (ot : Int) : Bool :=
  decide (checkF fd op nu tx ot 1 = 0) || (decide (checkF fd op nu tx ot 2 = 0) || (decide (checkF fd op nu tx ot 3 = 0) || (decide (checkF fd op nu tx ot 4 = 0) || decide (checkF fd op nu tx ot 5 = 0))))
def holdsF (c : Ctx) (fd op nu : Int) (tx : ByteArray) (ot : Int) (i : Itm) : Bool :=
  if textB fd = true then (((if fd = 14 then c.comm else c.exe).toList == tx.toList) == decide (op = 1)) else cmpF op (valF c i fd) (if ot = 0 then nu else valF c i ot)
def liveB (i : Itm) : Bool := decide (i.dev ≠ 0 ∨ i.ino ≠ 0)
/-- The truth of a test, as the reference asks for it. -/
def evalF (c : Ctx) (L : List Itm) (fd op nu : Int) (tx : ByteArray) (ot : Int) : Bool :=
  if soundB fd op nu tx ot = false ∨ hasF c fd = false ∨ (ot ≠ 0 ∧ hasF c ot = false) then false
  else if itemB fd = false ∧ itemB ot = false then holdsF c fd op nu tx ot Itm.none
  else L.any fun i => liveB i && holdsF c fd op nu tx ot i
/-- The program's: a field that the context has not makes the test false where it is read. -/
def holdsP (c : Ctx) (fd op nu : Int) (tx : ByteArray) (ot : Int) (i : Itm) : Bool :=
  if textB fd = false ∧ (hasF c fd = false ∨ (ot ≠ 0 ∧ hasF c ot = false)) then false else holdsF c fd op nu tx ot i
def evalP (c : Ctx) (L : List Itm) (fd op nu : Int) (tx : ByteArray) (ot : Int) : Bool :=
  if soundB fd op nu tx ot = false then false
  else if itemB fd = false ∧ itemB ot = false then holdsP c fd op nu tx ot Itm.none
  else L.any fun i => liveB i && holdsP c fd op nu tx ot i
theorem sound_some {fd op nu : Int} {tx : ByteArray} {ot : Int} (h : soundB fd op nu tx ot = true) : ∃ l, checkF fd op nu tx ot l = 0 := by
  unfold soundB at h
  simp only [Bool.or_eq_true, decide_eq_true_eq] at h
  rcases h with h | h | h | h | h
  · exact ⟨_, h⟩
  · exact ⟨_, h⟩
  · exact ⟨_, h⟩
  · exact ⟨_, h⟩
  · exact ⟨_, h⟩
theorem text_has {c : Ctx} {f : Int} (h : textB f = true) : hasF c f = true := by
  unfold textB at h
  unfold hasF
  simp at h
  rw [if_neg (by omega)]
  simp; omega
theorem eval_same (c : Ctx) (L : List Itm) (fd op nu : Int) (tx : ByteArray) (ot : Int) : evalP c L fd op nu tx ot = evalF c L fd op nu tx ot := by
  cases hs : soundB fd op nu tx ot
  · unfold evalP evalF
    rw [if_pos hs, if_pos (.inl hs)]
  · obtain ⟨l, hl⟩ := sound_some hs
    obtain ⟨h1, h2, h3, h4, h5, h6, h7⟩ := checkF_zero hl
    have ht : textB fd = true → ot = 0 := fun h => by
      rcases h2 with h2 | h2
      · exact h2
      · have := owner_text h2.2.1; rw [h] at this; cases this
    have hns : ¬ soundB fd op nu tx ot = false := by rw [hs]; decide
    have eP : evalP c L fd op nu tx ot = if itemB fd = false ∧ itemB ot = false then holdsP c fd op nu tx ot Itm.none else L.any fun i => liveB i && holdsP c fd op nu tx ot i := by unfold evalP; rw [if_neg hns]
    by_cases hbad : hasF c fd = false ∨ (ot ≠ 0 ∧ hasF c ot = false)
    · have htx : textB fd = false := by
        cases hx : textB fd
        · rfl
        · rcases hbad with hb | hb
          · rw [text_has hx] at hb; cases hb
          · exact absurd (ht hx) hb.1
      have hp : ∀ i, holdsP c fd op nu tx ot i = false := fun i => by unfold holdsP; rw [if_pos ⟨htx, hbad⟩]
      have eF : evalF c L fd op nu tx ot = false := by unfold evalF; rw [if_pos (.inr hbad)]
      rw [eP, eF]
      simp [hp]
    · have hp : ∀ i, holdsP c fd op nu tx ot i = holdsF c fd op nu tx ot i := fun i => by unfold holdsP; rw [if_neg (fun h => hbad h.2)]
      have eF : evalF c L fd op nu tx ot = if itemB fd = false ∧ itemB ot = false then holdsF c fd op nu tx ot Itm.none else L.any fun i => liveB i && holdsF c fd op nu tx ot i := by
        unfold evalF
        rw [if_neg]
        rintro (h | h)
        · exact hns h
        · exact hbad h
      rw [eP, eF]
      simp [hp]
end Go.Proofs.YtollifnnpihfdaaGreatDoor

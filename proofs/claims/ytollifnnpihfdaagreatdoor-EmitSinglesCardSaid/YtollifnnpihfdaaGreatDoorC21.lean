/- Texts of one proof, laid together. -/
import Derived.Test.YtollifnnpihfdaaGreatDoorC14
import Derived.Deep.RegionLaw
import Derived.Test.YtollifnnpihfdaaGreatDoorC10
import Derived.Lib.TrailingZeros
/- Format of the reference. -/
namespace Go.Proofs.YtollifnnpihfdaaGreatDoor
open Go.RowKit
theorem nameF_nat {k : Nat} (h : 1 ≤ k) (h2 : k ≤ 22) : nameF k = fieldN k := by
  unfold nameF; rw [if_neg (by omega)]; simp
theorem test_drew {w : World} {g : Nat} {cs : Array Value} (h : Blk w g 85 cs) : Blk w.drew g 85 cs := h
attribute [local irreducible] checkF fieldN opN quoteS numS cellsN cellsO anyE nameF
set_option maxRecDepth 100000 in
set_option maxHeartbeats 8000000 in
theorem rformatF (fd op nu : Int) (tx : ByteArray) (ot : Int) (hi : I64 nu) (hx : tx.size ≤ maxLen) (w : World) : Calls Tryz.prog 128 #[testV fd op nu tx ot] w fun e w' => e = .returned (.tuple #[.string (testS fd op nu tx ot), .int .i64 (anyE fd op nu tx ot)]) ∧ Below w.heap.size w w' := by
  obtain ⟨hT, hB⟩ := boxT w fd op nu tx ot
  have HK := Lib.hid (fun l W => rcheckF fd op nu tx ot l hx W)
  go_enter Tryz.func128, Tryz.ntmps128
  go_wp2_with fail
  refine (HK.out _ _).mono ?_
  rintro e w1 ⟨rfl, hb⟩
  have hT1 := hT.below hb
  obtain ⟨q0, q1, q2, q3, q4⟩ := test_cells hT1
  have HB1 := Lib.hid (hB.trans (hb.mono hB.size))
  clear hT hB hb
  by_cases h3 : checkF fd op nu tx ot 3 = 0
  · have HE := Lib.hid (show anyE fd op nu tx ot = 0 by unfold anyE; rw [if_neg (by simp [h3]), h3])
    rw [h3]
    clear h3
    obtain ⟨l, hl⟩ := anyE_zero HE.out
    obtain ⟨c1, c2, c3', c4, c5, c6, c7⟩ := checkF_zero hl
    have r1 := allow_range c1
    obtain ⟨kf, rfl⟩ := Int.eq_ofNat_of_zero_le (show 0 ≤ fd by omega)
    obtain ⟨ko, rfl⟩ := Int.eq_ofNat_of_zero_le (show 0 ≤ op by omega)
    have HS := Lib.hid (testS_nat HE.out)
    have NF := Lib.hid (fun W => rnameF kf W)
    rw [nameF_nat (by omega) (by omega)] at NF
    have z1 := field_len kf
    have z2 := op_len ko
    have HOC := Lib.hid (cellsO_at (k := ko) (by omega))
    have lo : (ko : Int) < 9 := by omega
    have hcat : ¬ 9223372036854775807 < (fieldN kf).size + (opN ko).size := by omega
    have HC2 := Lib.hid c2
    have HC6 := Lib.hid c6
    clear hl c1 c2 c3' c4 c5 c6 c7 r1
    go_wp2_with fail
    go_region_law (first
      | (go_simp; go_at_call 189; refine (NF.out _).mono ?_; rintro e w5 ⟨rfl, hb5⟩; have hT5 := Blk.below (by first | exact hT5 | exact test_drew hT1) hb5; have HB5 := Lib.hid (below_then (by first | exact HB5.out | exact HB1.out.drew) hb5); obtain ⟨q0, q1, q2, q3, q4⟩ := test_cells hT5; (try (have hgo := Glob.below hgo hb5 (Nat.le_refl _); have hco := (hgo.cell ko).trans HOC.out)); go_simp)
      | (go_simp; go_at_call 190; refine (rops _).mono ?_; rintro e w5 ⟨rfl, hgo, hb5⟩; have hT5 := Blk.below (by first | exact hT5 | exact test_drew hT1) hb5; have HB5 := Lib.hid (below_then (by first | exact HB5.out | exact HB1.out.drew) hb5); obtain ⟨q0, q1, q2, q3, q4⟩ := test_cells hT5; have hco := (hgo.cell ko).trans HOC.out; go_simp))
    all_goals
      clear hco hgo
      by_cases hot : ot = 0
      · subst hot
        cases htx : textB (kf : Int)
        · have HV := Lib.hid (show valS kf nu tx 0 = numS nu by unfold valS; rw [if_neg (by simp), if_neg (by rw [htx]; decide)])
          have CT := Lib.hid (fun W => rtextF kf W)
          rw [htx] at CT
          have HI := Lib.hid (fun W => rnumber nu hi.1 hi.2 W)
          have z3 := numS_lenF nu hi.1 hi.2
          clear htx
          go_wp2_with fail
          refine (CT.out _).mono ?_
          rintro e w7 ⟨rfl, rfl⟩
          go_wp2_with fail
          refine (HI.out _).mono ?_
          rintro e w8 ⟨rfl, rfl⟩
          have z4 : (fieldN kf ++ opN ko).size ≤ 10 := by rw [ByteArray.size_append]; omega
          go_wp2_with fail
          go_ret2
          exact ⟨tup (by rw [HS.out, HV.out]) HE.out.symm, HB5.out⟩
        · have HV := Lib.hid (show valS kf nu tx 0 = quoteS tx by unfold valS; rw [if_neg (by simp), if_pos htx])
          have CT := Lib.hid (fun W => rtextF kf W)
          rw [htx] at CT
          have HQ := Lib.hid (fun W => rquote tx W hx)
          have hs6 : tx.size ≤ 640 := by rcases HC6.out with h | h; rw [htx] at h; cases h; exact h.2.2
          have z3 := quoteS_leF tx hs6
          clear htx
          go_wp2_with fail
          refine (CT.out _).mono ?_
          rintro e w7 ⟨rfl, rfl⟩
          go_wp2_with fail
          refine (HQ.out _).mono ?_
          rintro e w8 ⟨rfl, hb8⟩
          have HB8 := Lib.hid (below_then HB5.out hb8)
          have z4 : (fieldN kf ++ opN ko).size ≤ 10 := by rw [ByteArray.size_append]; omega
          go_wp2_with fail
          go_ret2
          exact ⟨tup (by rw [HS.out, HV.out]) HE.out.symm, HB8.out⟩
      · have r2 := allow_range (HC2.out.resolve_left hot).1
        have HV := Lib.hid (show valS kf nu tx ot = nameF ot by unfold valS; rw [if_pos hot]; unfold nameF; rw [if_neg (by omega)])
        have NO := Lib.hid (fun W => rnameF ot W)
        have z3 : (nameF ot).size ≤ 8 := by unfold nameF; rw [if_neg (by omega)]; exact field_len _
        have b0 : (ot != 0) = true := by simpa using hot
        clear hot
        go_wp2_with fail
        refine (NO.out _).mono ?_
        rintro e w8 ⟨rfl, hb8⟩
        have HB8 := Lib.hid (below_then HB5.out hb8)
        have z4 : (fieldN kf ++ opN ko).size ≤ 10 := by rw [ByteArray.size_append]; omega
        go_wp2_with fail
        go_ret2
        exact ⟨tup (by rw [HS.out, HV.out]) HE.out.symm, HB8.out⟩
  · have b3 : (checkF fd op nu tx ot 3 != 0) = true := by simpa using h3
    have H3 := Lib.hid h3
    have HT1 := Lib.hid hT1
    clear h3 hT1
    go_wp2_with fail
    refine (HK.out _ _).mono ?_
    rintro e w2 ⟨rfl, hb⟩
    have HB2 := Lib.hid (below_then HB1.out hb)
    by_cases h5 : checkF fd op nu tx ot 5 = 0
    · have HE := Lib.hid (show anyE fd op nu tx ot = 0 by unfold anyE; rw [if_pos ⟨H3.out, h5⟩])
      have hT1 := HT1.out.below hb
      clear q0 q1 q2 q3 q4
      obtain ⟨q0, q1, q2, q3, q4⟩ := test_cells hT1
      rw [h5]
      clear h5 hb HB1
      have HB1 := HB2
      clear HB2 H3 HT1
      obtain ⟨l, hl⟩ := anyE_zero HE.out
      obtain ⟨c1, c2, c3', c4, c5, c6, c7⟩ := checkF_zero hl
      have r1 := allow_range c1
      obtain ⟨kf, rfl⟩ := Int.eq_ofNat_of_zero_le (show 0 ≤ fd by omega)
      obtain ⟨ko, rfl⟩ := Int.eq_ofNat_of_zero_le (show 0 ≤ op by omega)
      have HS := Lib.hid (testS_nat HE.out)
      have NF := Lib.hid (fun W => rnameF kf W)
      rw [nameF_nat (by omega) (by omega)] at NF
      have z1 := field_len kf
      have z2 := op_len ko
      have HOC := Lib.hid (cellsO_at (k := ko) (by omega))
      have lo : (ko : Int) < 9 := by omega
      have hcat : ¬ 9223372036854775807 < (fieldN kf).size + (opN ko).size := by omega
      have HC2 := Lib.hid c2
      have HC6 := Lib.hid c6
      clear hl c1 c2 c3' c4 c5 c6 c7 r1
      go_wp2_with fail
      go_region_law (first
        | (go_simp; go_at_call 189; refine (NF.out _).mono ?_; rintro e w5 ⟨rfl, hb5⟩; have hT5 := Blk.below (by first | exact hT5 | exact test_drew hT1) hb5; have HB5 := Lib.hid (below_then (by first | exact HB5.out | exact HB1.out.drew) hb5); obtain ⟨q0, q1, q2, q3, q4⟩ := test_cells hT5; (try (have hgo := Glob.below hgo hb5 (Nat.le_refl _); have hco := (hgo.cell ko).trans HOC.out)); go_simp)
        | (go_simp; go_at_call 190; refine (rops _).mono ?_; rintro e w5 ⟨rfl, hgo, hb5⟩; have hT5 := Blk.below (by first | exact hT5 | exact test_drew hT1) hb5; have HB5 := Lib.hid (below_then (by first | exact HB5.out | exact HB1.out.drew) hb5); obtain ⟨q0, q1, q2, q3, q4⟩ := test_cells hT5; have hco := (hgo.cell ko).trans HOC.out; go_simp))
      all_goals
        clear hco hgo
        by_cases hot : ot = 0
        · subst hot
          cases htx : textB (kf : Int)
          · have HV := Lib.hid (show valS kf nu tx 0 = numS nu by unfold valS; rw [if_neg (by simp), if_neg (by rw [htx]; decide)])
            have CT := Lib.hid (fun W => rtextF kf W)
            rw [htx] at CT
            have HI := Lib.hid (fun W => rnumber nu hi.1 hi.2 W)
            have z3 := numS_lenF nu hi.1 hi.2
            clear htx
            go_wp2_with fail
            refine (CT.out _).mono ?_
            rintro e w7 ⟨rfl, rfl⟩
            go_wp2_with fail
            refine (HI.out _).mono ?_
            rintro e w8 ⟨rfl, rfl⟩
            have z4 : (fieldN kf ++ opN ko).size ≤ 10 := by rw [ByteArray.size_append]; omega
            go_wp2_with fail
            go_ret2
            exact ⟨tup (by rw [HS.out, HV.out]) HE.out.symm, HB5.out⟩
          · have HV := Lib.hid (show valS kf nu tx 0 = quoteS tx by unfold valS; rw [if_neg (by simp), if_pos htx])
            have CT := Lib.hid (fun W => rtextF kf W)
            rw [htx] at CT
            have HQ := Lib.hid (fun W => rquote tx W hx)
            have hs6 : tx.size ≤ 640 := by rcases HC6.out with h | h; rw [htx] at h; cases h; exact h.2.2
            have z3 := quoteS_leF tx hs6
            clear htx
            go_wp2_with fail
            refine (CT.out _).mono ?_
            rintro e w7 ⟨rfl, rfl⟩
            go_wp2_with fail
            refine (HQ.out _).mono ?_
            rintro e w8 ⟨rfl, hb8⟩
            have HB8 := Lib.hid (below_then HB5.out hb8)
            have z4 : (fieldN kf ++ opN ko).size ≤ 10 := by rw [ByteArray.size_append]; omega
            go_wp2_with fail
            go_ret2
            exact ⟨tup (by rw [HS.out, HV.out]) HE.out.symm, HB8.out⟩
        · have r2 := allow_range (HC2.out.resolve_left hot).1
          have HV := Lib.hid (show valS kf nu tx ot = nameF ot by unfold valS; rw [if_pos hot]; unfold nameF; rw [if_neg (by omega)])
          have NO := Lib.hid (fun W => rnameF ot W)
          have z3 : (nameF ot).size ≤ 8 := by unfold nameF; rw [if_neg (by omega)]; exact field_len _
          have b0 : (ot != 0) = true := by simpa using hot
          clear hot
          go_wp2_with fail
          refine (NO.out _).mono ?_
          rintro e w8 ⟨rfl, hb8⟩
          have HB8 := Lib.hid (below_then HB5.out hb8)
          have z4 : (fieldN kf ++ opN ko).size ≤ 10 := by rw [ByteArray.size_append]; omega
          go_wp2_with fail
          go_ret2
          exact ⟨tup (by rw [HS.out, HV.out]) HE.out.symm, HB8.out⟩
    · have HE := Lib.hid (show anyE fd op nu tx ot = checkF fd op nu tx ot 3 by unfold anyE; rw [if_neg (fun h => h5 h.2)])
      have HE2 := Lib.hid (show testS fd op nu tx ot = ⟨#[]⟩ by unfold testS; rw [HE.out, if_neg H3.out])
      have b5 : (checkF fd op nu tx ot 5 != 0) = true := by simpa using h5
      clear h5
      go_wp2_with fail
      go_ret2
      exact ⟨tup HE2.out.symm HE.out.symm, HB2.out⟩
end Go.Proofs.YtollifnnpihfdaaGreatDoor
/- OnesCount64 and TrailingZeros64 of Go's library, as List of package mask uses them. -/
namespace Go.Proofs.YtollifnnpihfdaaGreatDoor
open Go.RowKit
theorem and127 (a : Int) : 0 ≤ bits .and .i64 a 127 ∧ bits .and .i64 a 127 ≤ 127 := by
  show 0 ≤ IntKind.i64.wrap ((BitVec.ofInt 64 a &&& BitVec.ofInt 64 127).toNat : Int) ∧ IntKind.i64.wrap ((BitVec.ofInt 64 a &&& BitVec.ofInt 64 127).toNat : Int) ≤ 127
  have h : (BitVec.ofInt 64 a &&& BitVec.ofInt 64 127).toNat ≤ 127 := by
    rw [BitVec.toNat_and]
    exact Nat.le_trans Nat.and_le_right (by decide)
  generalize (BitVec.ofInt 64 a &&& BitVec.ofInt 64 127).toNat = q at *
  rw [IntKind.wrap_i64]; omega
def CPost (w : World) (e : Ending) (w' : World) : Prop := ∃ n : Nat, e = .returned (.int .i64 (n : Int)) ∧ n ≤ 127 ∧ w = w'
theorem cpost (w : World) (a : Int) : CPost w (.returned (.int .i64 (bits .and .i64 a 127))) w := by
  have h := and127 a
  exact ⟨(bits .and .i64 a 127).toNat, by rw [Int.toNat_of_nonneg h.1], by omega, rfl⟩
attribute [local irreducible] bits
def dbL : List Int := [0, 1, 56, 2, 57, 49, 28, 3, 61, 58, 42, 50, 38, 29, 17, 4, 62, 47, 59, 36, 45, 43, 51, 22, 53, 39, 33, 30, 24, 18, 12, 5, 63, 55, 48, 27, 60, 41, 37, 16, 46, 35, 44, 21, 52, 32, 23, 11, 54, 26, 40, 15, 34, 20, 31, 10, 25, 14, 19, 9, 13, 8, 7, 6]
def dbV : Array Value := (dbL.map (Value.int .u8)).toArray
def Db (w : World) : Prop := Glob w 10 dbV
theorem Db.below {B : Nat} {w w' : World} (h : Db w) (hb : Below B w w') (hB : w.heap.size ≤ B) : Db w' := Glob.below h hb hB
theorem db_at : ∀ k : Fin 32, (2 ^ k.val * 285870213051353865 % 18446744073709551616 / 288230376151711744 < 64) ∧ dbL[2 ^ k.val * 285870213051353865 % 18446744073709551616 / 288230376151711744]? = some (k.val : Int) := by decide +kernel
theorem low_and (x : Nat) (h0 : x ≠ 0) (h : x < 4294967296) : bits .and .u64 (x : Int) (IntKind.u64.wrap (-(x : Int))) = ((2 ^ Lib.ctz 64 x : Nat) : Int) := by
  have hl := (Lib.lowest_bit 64 x h0 (by omega)).1
  have e : IntKind.u64.wrap (-(x : Int)) = ((2 ^ 64 - x : Nat) : Int) := by
    rw [IntKind.wrap_u64]; omega
  rw [e, u64_and_nat x _ (by omega) (by omega), hl]
theorem ctz_spec (x : Nat) (h0 : x ≠ 0) (h : x < 4294967296) : ∃ j, x = 2 ^ Lib.ctz 64 x * (2 * j + 1) ∧ Lib.ctz 64 x < 32 := by
  have e : Lib.ctz 64 x = Lib.ctzFrom 64 x := by unfold Lib.ctz; rw [if_neg h0]
  rw [e]
  obtain ⟨j, hj, _⟩ := Lib.ctzFrom_spec 64 x (by omega) (by omega)
  refine ⟨j, hj, ?_⟩
  rcases Nat.lt_or_ge (Lib.ctzFrom 64 x) 32 with hlt | hge
  · exact hlt
  · exfalso
    have h1 : 2 ^ 32 ≤ 2 ^ Lib.ctzFrom 64 x := Nat.pow_le_pow_right (by omega) hge
    have h2 : 2 ^ Lib.ctzFrom 64 x ≤ x := by
      conv => rhs; rw [hj]
      exact Nat.le_mul_of_pos_right _ (by omega)
    omega
set_option maxHeartbeats 400000 in
theorem trailing (x : Nat) (w : World) (h0 : x ≠ 0) (h : x < 4294967296) (hD : Db w) :
    Calls Tryz.prog 281 #[.int .u64 (x : Int)] w fun e w' => e = .returned (.int .i64 (Lib.ctz 64 x : Int)) ∧ w = w' := by
  obtain ⟨j, hj, hk⟩ := ctz_spec x h0 h
  have ha := low_and x h0 h
  have hb0 : ((x : Int) == 0) = false := by simp; omega
  have hx1 : 0 < (x : Int) := by omega
  generalize Lib.ctz 64 x = k at *
  have hdb := db_at ⟨k, hk⟩
  simp only at hdb
  have hw : IntKind.u64.wrap ((2 : Int) ^ k * 285870213051353865) = ((2 ^ k * 285870213051353865 % 18446744073709551616 : Nat) : Int) := by
    rw [IntKind.wrap_u64, Int.natCast_emod, Int.natCast_mul, Int.natCast_pow]; rfl
  generalize 2 ^ k * 285870213051353865 % 18446744073709551616 = p at *
  have hc : w.cell? ⟨10, p / 288230376151711744, none⟩ = some (.int .u8 (k : Int)) := by
    rw [Glob.cell hD]
    unfold dbV
    simp [hdb.2]
  have q0 : (0 : Int) ≤ (p : Int) / 288230376151711744 := by omega
  have q1 : (p : Int) / 288230376151711744 < 64 := by have := hdb.1; omega
  have ha' : bits .and .u64 (x : Int) (IntKind.u64.wrap (-(x : Int))) = (2 : Int) ^ k := by rw [ha, Int.natCast_pow]; rfl
  clear hj h0 h hD hdb ha
  go_enter Tryz.func281, Tryz.ntmps281
  go_wp2
  go_ret
  exact ⟨rfl, rfl⟩
theorem memF_congr (m m' a : Nat) (h : ∀ i, a ≤ i → hasN m i = hasN m' i) : memF m a = memF m' a := by
  unfold memF
  apply List.filter_congr
  intro x hx
  exact h x (List.mem_range'_1.1 hx).1
theorem memF_skip (m : Nat) : ∀ (d k : Nat), (∀ i, k ≤ i → i < k + d → hasN m i = false) → memF m k = memF m (k + d)
  | 0, k, _ => rfl
  | d + 1, k, h => by
    rw [memF_no m k (h k (Nat.le_refl _) (by omega)), memF_skip m d (k + 1) (fun i h1 h2 => h i (by omega) (by omega))]
    congr 1; omega
theorem bits_low (k j i : Nat) : (2 ^ k * (2 * j + 1)).testBit i = if i < k then false else (2 * j + 1).testBit (i - k) := by
  rw [Nat.testBit_two_pow_mul]
  by_cases h : i < k
  · simp [h]; omega
  · simp [h]; omega
theorem bits_pred (k j i : Nat) : (2 ^ k * (2 * j + 1) - 1).testBit i = if i < k then true else (2 * j).testBit (i - k) := by
  have hp : 0 < 2 ^ k := Nat.pow_pos (by omega)
  have e : 2 ^ k * (2 * j + 1) - 1 = 2 ^ k * (2 * j) + (2 ^ k - 1) := by rw [Nat.mul_add, Nat.mul_one]; omega
  rw [e, Nat.testBit_two_pow_mul_add _ (by omega)]
  by_cases h : i < k
  · simp [h, Nat.testBit_two_pow_sub_one]
  · simp [h]
theorem bits_next (k j i : Nat) : (2 ^ k * (2 * j + 1) &&& (2 ^ k * (2 * j + 1) - 1)).testBit i = if i ≤ k then false else (2 ^ k * (2 * j + 1)).testBit i := by
  rw [Nat.testBit_and, bits_low, bits_pred]
  by_cases h : i < k
  · simp [h]
  · by_cases h2 : i = k
    · subst h2; simp
    · rw [if_neg h, if_neg h, if_neg (by omega)]
      obtain ⟨d, hd⟩ : ∃ d, i - k = d + 1 := ⟨i - k - 1, by omega⟩
      rw [hd, Nat.testBit_succ, Nat.testBit_succ, show (2 * j + 1) / 2 = j by omega, show 2 * j / 2 = j by omega]; simp
/-- The least member, and the others. -/
theorem memF_next (r : Nat) (h0 : r ≠ 0) (h : r < 4294967296) : memF r 0 = Lib.ctz 64 r :: memF (r &&& (r - 1)) 0 := by
  obtain ⟨j, hj, hk⟩ := ctz_spec r h0 h
  generalize Lib.ctz 64 r = k at *
  have l1 : ∀ i, 0 ≤ i → i < 0 + k → hasN r i = false := fun i _ hi => by
    unfold hasN; rw [hj, bits_low, if_pos (by omega)]; simp
  have l2 : hasN r k = true := by
    unfold hasN; rw [hj, bits_low, if_neg (by omega)]; simp [hk]
  have l3 : ∀ i, 0 ≤ i → i < 0 + (k + 1) → hasN (r &&& (r - 1)) i = false := fun i _ hi => by
    unfold hasN; rw [hj, bits_next, if_pos (by omega)]; simp
  have l4 : memF r (k + 1) = memF (r &&& (r - 1)) (k + 1) := memF_congr _ _ _ fun i hi => by
    unfold hasN; rw [hj, bits_next, if_neg (by omega)]
  have e1 := memF_skip r k 0 l1
  have e2 := memF_skip (r &&& (r - 1)) (k + 1) 0 l3
  rw [Nat.zero_add] at e1 e2
  rw [e1, e2, memF_yes r k l2, l4]
theorem memF_mod (m : Nat) : memF (m % 4294967296) 0 = memF m 0 := memF_congr _ _ _ fun i _ => by
  unfold hasN
  rw [show (4294967296 : Nat) = 2 ^ 32 from rfl, Nat.testBit_mod_two_pow]
  by_cases h : i < 32 <;> simp [h]
end Go.Proofs.YtollifnnpihfdaaGreatDoor
/- List, of the program and of the reference, returns the members. -/
namespace Go.Proofs.YtollifnnpihfdaaGreatDoor
open Go.RowKit
theorem Tryz.info3 : (Tryz.prog.info? 3).map (fun i => (i.zero, i.size, i.bytes)) = some (some (.int .i64 0), 1, 8) := by kernel_rfl
abbrev natV (n : Nat) : Value := .int .i64 (n : Int)
def LPost (m : Nat) (w : World) (e : Ending) (w' : World) : Prop := ∃ v, e = .returned v ∧ w'.ownsRow w.heap.size 3 1 v (memF m 0).length ((memF m 0).map natV) ∧ Below w.heap.size w w'
theorem memF_len (m k : Nat) : (memF m k).length ≤ 32 := by
  unfold memF
  exact Nat.le_trans (List.length_filter_le _ _) (by simp)
def LeftM (m r : Nat) (R : List Nat) : Prop := R ++ memF r 0 = memF m 0 ∧ r < 4294967296
theorem LeftM.start (m : Nat) : LeftM m (m % 4294967296) [] := ⟨by rw [memF_mod]; rfl, Nat.mod_lt _ (by omega)⟩
theorem LeftM.step {m r : Nat} {R : List Nat} (h : LeftM m r R) (h0 : r ≠ 0) : LeftM m (r &&& (r - 1)) (R ++ [Lib.ctz 64 r]) := by
  refine ⟨?_, Nat.lt_of_le_of_lt Nat.and_le_left h.2⟩
  rw [← h.1, memF_next r h0 h.2]; simp
theorem memF_zero (k : Nat) : memF 0 k = [] := by
  unfold memF; rw [List.filter_eq_nil_iff]; intro x _; simp [hasN]
theorem LeftM.done {m : Nat} {R : List Nat} (h : LeftM m 0 R) : R = memF m 0 := by
  have := h.1; rw [memF_zero] at this; simpa using this
theorem LeftM.len {m r : Nat} {R : List Nat} (h : LeftM m r R) : R.length ≤ 32 := by
  have h1 := memF_len m 0
  rw [← h.1, List.length_append] at h1; omega
theorem and_pred (r : Nat) (h : r < 4294967296) (h0 : r ≠ 0) : bits .and .u64 (r : Int) (IntKind.u64.wrap ((r : Int) - 1)) = ((r &&& (r - 1) : Nat) : Int) := by
  have e : IntKind.u64.wrap ((r : Int) - 1) = ((r - 1 : Nat) : Int) := by rw [IntKind.wrap_u64]; omega
  rw [e, u64_and_nat r _ (by omega) (by omega)]
theorem and_lt (r : Nat) (h0 : r ≠ 0) : r &&& (r - 1) < r := Nat.lt_of_le_of_lt Nat.and_le_right (by omega)
attribute [local irreducible] Lib.ctz
set_option maxRecDepth 100000 in
set_option maxHeartbeats 2000000 in
theorem rlist (m : Nat) (w : World) (hm : m < 18446744073709551616) :
    Calls Tryz.prog 188 #[.int .u64 (m : Int)] w (LPost m w) := by
  obtain ⟨i0, hi, hz0, hz1, hz2⟩ := info_parts Tryz.info3
  have HM := Lib.hid hm
  clear hm
  go_enter Tryz.func188, Tryz.ntmps188
  go_wp2_with fail
  go_loopw [3, 4] (fun v x wr => ∃ (k : Nat) (R : List Nat), k ≤ 32 ∧ x = .int .i64 (k : Int) ∧ R.length ≤ k ∧ wr.ownsRow w.heap.size 3 1 v R.length (R.map natV) ∧ Below w.heap.size w wr ∧ Hid (R ++ memF m k = memF m 0)) (fun _ x _ => 32 - (intOf x).toNat)
  case atStart => exact ⟨0, [], by omega, rfl, by simp, World.ownsRow_nil _ _ _ _, Below.refl _ _, by exact rfl⟩
  case round =>
    obtain ⟨k, R, hk, rfl, hR, hown, hb, hleft⟩ := hrel
    by_cases hlt : k < 32
    · go_wp2_with fail
      refine (rhas m _ _ HM.out).mono ?_
      rintro e w' ⟨rfl, rfl⟩
      rw [hasB_nat]
      cases hh : hasN m k
      · have HL := Lib.hid (show R ++ memF m (k + 1) = memF m 0 by rw [← memF_no m k hh]; exact hleft.out)
        clear hh
        go_wp2_with fail
        go_roundw
        case rel => exact ⟨k + 1, R, by omega, by go_num, by omega, hown, hb, HL⟩
        case measure => simp [intOf]; omega
      · have HL := Lib.hid (show (R ++ [k]) ++ memF m (k + 1) = memF m 0 by rw [← hleft.out, memF_yes m k hh]; simp)
        clear hh
        go_wp2_with (at_builtin; refine wpList_append_own _ rfl _ _ 22 rfl w.heap.size 3 i0 _ 1 8 Tryz.underlying22 hi hz0 hz1 hz2 rfl (by omega) _ _ _ rfl (hown.alloc _) ⟨wr.heap.size, 0, none⟩ 1 1 [natV k] rfl rfl (cell_one_new _ _ _) (by simp [Value.oneCell']) (by unfold maxLen; omega) (by omega) (by have := hb.size; simp; omega) ?_; intro v2 w2 hown2 hg2 _)
        have hb2 : Below w.heap.size w w2 := below_grown_own (hb.alloc hb.size _) hown (Nat.le_refl _) hg2 (by have := hb.size; simp; omega)
        clear hg2
        go_roundw
        case rel => exact ⟨k + 1, R ++ [k], by omega, by go_num, by simp; omega, by simpa using hown2, hb2, HL⟩
        case measure => simp [intOf]; omega
    · obtain rfl : k = 32 := by omega
      have HR := Lib.hid (show R = memF m 0 by have := hleft.out; rw [memF_end m 32 (by omega)] at this; simpa using this)
      go_wp2_with fail
      go_ret
      exact ⟨_, rfl, by rw [← HR.out]; exact hown, hb⟩
end Go.Proofs.YtollifnnpihfdaaGreatDoor
/- The sanity check of the statements of layer 1, and the walk of the law MaskOfs. -/
namespace Go.Proofs.YtollifnnpihfdaaGreatDoor
open Go.RowKit
theorem lit_row {w wr : World} {cs : Array Value} {t : TypeId} (hb : Below (w.heap.size + 1) (w.alloc (.cells cs t)) wr) (k : Nat) : wr.cell? ⟨w.heap.size, k, none⟩ = cs[k]? := by
  rw [hb.cell (p := ⟨w.heap.size, k, none⟩) (by show w.heap.size < w.heap.size + 1; omega)]
  exact cell_of_row _ _ _ cs t (0, 0) (heap_alloc_new w _)
theorem maskS_awake : maskS 135 = ⟨#[48, 45, 50, 44, 55]⟩ := by
  have e : memF 135 0 = [0, 1, 2, 7] := by decide +kernel
  have g : grp [0, 1, 2, 7] = [(0, 2), (7, 7)] := by decide +kernel
  unfold maskS
  rw [if_neg (by omega), if_neg (by omega), e, g]
  simp only [List.map_cons, List.map_nil, rtext]
  rw [if_pos (by decide), if_neg (by decide), Lib.decDigits_one (by decide), Lib.decDigits_one (by decide), Lib.decDigits_one (by decide)]
  rfl
theorem ofM_awake : ofM [7, 0, 1, 2] = 135 ∧ ofE [7, 0, 1, 2] = 0 := by decide +kernel
theorem ints_lit (w : World) (zs : List Int) : IntsAt (w.alloc (.cells (zs.map (Value.int .i64)).toArray 3)) (w.heap.size + 1) (some ⟨w.heap.size, 0, none⟩) zs := fun k hk => by
  refine ⟨⟨w.heap.size, 0, none⟩, rfl, by show w.heap.size < w.heap.size + 1; omega, ?_⟩
  have e : (⟨w.heap.size, 0, none⟩ : Addr).add k = ⟨w.heap.size, k, none⟩ := by
    unfold Addr.add; split
    · rename_i h; subst h; rfl
    · simp
  rw [e, lit_row (Below.refl _ _) k]
  simp [List.getElem?_eq_getElem hk]
attribute [local irreducible] maskS
end Go.Proofs.YtollifnnpihfdaaGreatDoor

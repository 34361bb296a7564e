/- Texts of one proof, laid together. -/
import Derived.Test.YtollifnnpihfdaaGreatDoorC21
import Derived.Deep.QuietTactic
import Derived.BigQuiet
import Derived.Test.YtollifnnpihfdaaGreatDoorC20
import Derived.Test.YtollifnnpihfdaaGreatDoorC17
import Derived.Deep.RegionHeld3
/- Format of the reference returns maskS. -/
namespace Go.Proofs.YtollifnnpihfdaaGreatDoor
open Go.RowKit
theorem grp_first (x : Nat) (l : List Nat) : ∃ c r, grp (x :: l) = (x, c) :: r := by
  unfold grp
  split
  · exact ⟨x, [], rfl⟩
  · split
    · exact ⟨_, _, rfl⟩
    · exact ⟨_, _, rfl⟩
theorem grp_break (a : Nat) (l : List Nat) (h : l.head? ≠ some (a + 1)) : grp (a :: l) = (a, a) :: grp l := by
  cases l with
  | nil => rfl
  | cons x l =>
    obtain ⟨c, r, e⟩ := grp_first x l
    show (match grp (x :: l) with | [] => [(a, a)] | (b, c) :: r => if b = a + 1 then (a, c) :: r else (a, a) :: (b, c) :: r) = _
    rw [e]
    simp only
    rw [if_neg (fun e => h (by simp [e]))]
/-- A stretch of numbers that follow each other is one run. -/
theorem grp_seg (L : List Nat) : ∀ (d i k : Nat), k = i + d → (hi : i < L.length) → (hk : k < L.length) → (∀ t, i ≤ t → (ht : t ≤ k) → L[t]'(by omega) = L[i] + (t - i)) → (L.drop (k + 1)).head? ≠ some (L[k] + 1) →
    grp (L.drop i) = (L[i], L[k]) :: grp (L.drop (k + 1))
  | 0, i, k, hd, hi, hk, _, hb => by
    obtain rfl : k = i := by omega
    rw [List.drop_eq_getElem_cons hi]
    exact grp_break _ _ hb
  | d + 1, i, k, hd, hi, hk, hall, hb => by
    have h1 : L[i + 1]'(by omega) = L[i] + 1 := by have := hall (i + 1) (by omega) (by omega); omega
    have ih := grp_seg L d (i + 1) k (by omega) (by omega) hk (fun t h2 h3 => by have := hall t (by omega) h3; omega) hb
    rw [List.drop_eq_getElem_cons hi]
    exact grp_join _ _ _ _ (by rw [ih, h1])
theorem join_snoc (xs : List (List UInt8)) (y : List UInt8) (h : xs ≠ []) : Lib.join (xs ++ [y]) [44] = Lib.join xs [44] ++ 44 :: y := by
  cases xs with
  | nil => exact absurd rfl h
  | cons x r =>
    rw [List.cons_append, Lib.join_cons, Lib.join_cons]
    simp [Lib.joinTail]
def joinR (R : List (Nat × Nat)) : ByteArray := ⟨(Lib.join (R.map rtext) [44]).toArray⟩
theorem joinR_snoc (R : List (Nat × Nat)) (p : Nat × Nat) (h : R ≠ []) : joinR (R ++ [p]) = joinR R ++ ⟨#[44]⟩ ++ rtextS p := by
  unfold joinR rtextS
  rw [List.map_append, List.map_cons, List.map_nil, join_snoc _ _ (by simpa using h)]
  apply ByteArray.ext; simp
theorem joinR_one (p : Nat × Nat) : joinR [p] = rtextS p := by unfold joinR rtextS; simp [Lib.join_one]
theorem dec_ne (n : Nat) : Lib.decDigits n ≠ [] := by
  rw [Lib.decDigits]; split <;> simp
theorem rtext_ne (p : Nat × Nat) : rtext p ≠ [] := by
  unfold rtext; split
  · simp
  · exact dec_ne _
theorem joinR_ne (R : List (Nat × Nat)) (h : R ≠ []) : 0 < (joinR R).size := by
  cases R with
  | nil => exact absurd rfl h
  | cons p r =>
    have e : (joinR (p :: r)).size = (Lib.join ((p :: r).map rtext) [44]).length := by show (Lib.join ((p :: r).map rtext) [44]).toArray.size = _; simp
    rw [e, List.map_cons, Lib.join_cons, List.length_append]
    have := List.length_pos_iff.2 (rtext_ne p)
    omega
theorem joinR_size (R : List (Nat × Nat)) (hs : ∀ p ∈ R, p.1 < 32 ∧ p.2 < 32) : (joinR R).size ≤ 6 * R.length := by
  have e : (joinR R).size = (Lib.join (R.map rtext) [44]).length := by show (Lib.join (R.map rtext) [44]).toArray.size = _; simp
  rw [e]
  have := join_len (R.map rtext) (fun x hx => by obtain ⟨p, hp, rfl⟩ := List.mem_map.1 hx; exact rtext_len p (hs p hp))
  rwa [List.length_map] at this
theorem len_all (m : Nat) : (memF m 0).length = 32 ↔ m % 4294967296 = 4294967295 := by
  have hl : (List.range' 0 (32 - 0)).length = 32 := by simp
  unfold memF
  constructor
  · intro h
    have hall := List.length_filter_eq_length_iff.1 (h.trans hl.symm)
    apply Nat.eq_of_testBit_eq
    intro i
    rw [show (4294967296 : Nat) = 2 ^ 32 from rfl, Nat.testBit_mod_two_pow, show (4294967295 : Nat) = 2 ^ 32 - 1 from rfl, Nat.testBit_two_pow_sub_one]
    by_cases hi : i < 32
    · have := hall i (List.mem_range'_1.2 ⟨by omega, by omega⟩)
      unfold hasN at this
      simp [hi] at this
      simp [hi, this]
    · simp [hi]
  · intro h
    rw [List.length_filter_eq_length_iff.2 ?_, hl]
    intro i hi
    have hi32 : i < 32 := by have := (List.mem_range'_1.1 hi).2; omega
    have := congrArg (Nat.testBit · i) h
    rw [show (4294967296 : Nat) = 2 ^ 32 from rfl, Nat.testBit_mod_two_pow, show (4294967295 : Nat) = 2 ^ 32 - 1 from rfl, Nat.testBit_two_pow_sub_one] at this
    simp [hi32] at this
    unfold hasN; simp [hi32, this]
theorem len_none (m : Nat) : (memF m 0).length = 0 ↔ m % 4294967296 = 0 := by
  constructor
  · intro h
    rcases Nat.eq_zero_or_pos (m % 4294967296) with h0 | h0
    · exact h0
    · exact absurd (List.eq_nil_of_length_eq_zero h) (has_mod m (by omega))
  · intro h
    rw [← memF_mod, h, memF_zero]; rfl
theorem ints_own {w : World} {base n : Nat} {v : Value} {L : List Nat} (h : w.ownsRow base 3 1 v n (L.map natV)) : n = L.length ∧ ∃ A c, v = .slice A n c ∧ IntsAt w w.heap.size A (L.map Int.ofNat) := by
  have hn : n = L.length := by have := h.1; simp at this; omega
  refine ⟨hn, ?_⟩
  rcases Joins.ownsRow_forms h with ⟨rfl, h0⟩ | ⟨g, cap, rfl⟩
  · refine ⟨none, 0, by rw [h0], fun k hk => ?_⟩
    simp at hk; omega
  · refine ⟨some ⟨g, 0, none⟩, cap, rfl, fun k hk => ⟨_, rfl, (h.lt g rfl).2, ?_⟩⟩
    simp at hk
    rw [h.cells (g := g) rfl k (natV (L[k]'hk)) (by simp [hk])]
    simp
def SegOk (L : List Nat) (i k : Nat) : Prop := ∀ t, i ≤ t → t ≤ k → L.getD t 0 = L.getD i 0 + (t - i)
theorem SegOk.start (L : List Nat) (i : Nat) : SegOk L i i := fun t h1 h2 => by
  obtain rfl : t = i := by omega
  simp
theorem SegOk.more {L : List Nat} {i k : Nat} (h : SegOk L i k) (hik : i ≤ k) (he : L.getD (k + 1) 0 = L.getD k 0 + 1) : SegOk L i (k + 1) := fun t h1 h2 => by
  by_cases e : t = k + 1
  · subst e
    have := h k hik (Nat.le_refl _)
    omega
  · exact h t h1 (by omega)
theorem getD_at (L : List Nat) (t : Nat) (h : t < L.length) : L.getD t 0 = L[t] := by
  rw [List.getD_eq_getElem?_getD, List.getElem?_eq_getElem h]; rfl
theorem SegOk.grp {L : List Nat} {i k : Nat} (h : SegOk L i k) (hik : i ≤ k) (hk : k < L.length) (hb : L.length ≤ k + 1 ∨ L.getD (k + 1) 0 ≠ L.getD k 0 + 1) : grp (L.drop i) = (L.getD i 0, L.getD k 0) :: grp (L.drop (k + 1)) := by
  have hi : i < L.length := by omega
  rw [getD_at L i hi, getD_at L k hk]
  refine grp_seg L (k - i) i k (by omega) hi hk (fun t h1 h2 => ?_) ?_
  · have := h t h1 h2
    rwa [getD_at L t (by omega), getD_at L i hi] at this
  · rcases hb with hb | hb
    · rw [List.drop_eq_nil_of_le hb]; simp
    · by_cases hl : k + 1 < L.length
      · rw [List.drop_eq_getElem_cons hl]
        rw [getD_at L (k + 1) hl, getD_at L k hk] at hb
        rw [List.head?_cons]
        exact fun e => hb (by injection e)
      · rw [List.drop_eq_nil_of_le (by omega)]; simp
/-- What the outer loop has written when it stands at place i. -/
def SegLeft (L : List Nat) (i : Nat) (R : List (Nat × Nat)) : Prop := R ++ grp (L.drop i) = grp L ∧ (∀ p ∈ R, p.1 < 32 ∧ p.2 < 32)
theorem getD_lt {L : List Nat} (hL : ∀ x ∈ L, x < 32) (t : Nat) : L.getD t 0 < 32 := by
  by_cases h : t < L.length
  · rw [getD_at L t h]; exact hL _ (List.getElem_mem h)
  · rw [List.getD_eq_getElem?_getD, List.getElem?_eq_none (by omega)]; decide
theorem SegLeft.next {L : List Nat} {i k : Nat} {R : List (Nat × Nat)} (h : SegLeft L i R) (hL : ∀ x ∈ L, x < 32) (hg : grp (L.drop i) = (L.getD i 0, L.getD k 0) :: grp (L.drop (k + 1))) : SegLeft L (k + 1) (R ++ [(L.getD i 0, L.getD k 0)]) := by
  refine ⟨?_, fun p hp => ?_⟩
  · rw [← h.1, hg]; simp
  · rcases List.mem_append.1 hp with hp | hp
    · exact h.2 p hp
    · simp only [List.mem_singleton] at hp; subst hp; exact ⟨getD_lt hL _, getD_lt hL _⟩
theorem ints_getD {w : World} {B : Nat} {A : Option Addr} {L : List Nat} (h : IntsAt w B A (L.map Int.ofNat)) (t : Nat) (ht : t < L.length) : ∃ ad : Addr, A = some ad ∧ ad.block < B ∧ w.cell? (ad.add t) = some (.int .i64 ((L.getD t 0 : Nat) : Int)) := by
  obtain ⟨ad, e, hb, hc⟩ := h t (by simpa using ht)
  refine ⟨ad, e, hb, ?_⟩
  rw [hc, getD_at L t ht]; simp
theorem joinR_nil : joinR [] = ⟨#[]⟩ := by unfold joinR; rfl
theorem joinR_e : (joinR []).toList = [] := by rw [joinR_nil]; exact ByteArray.toList_mk []
theorem nil_app (x : ByteArray) : (⟨#[]⟩ : ByteArray) ++ x = x := by apply ByteArray.ext; simp
theorem text1 (y : Nat) : joinR [] ++ decS y = joinR ([] ++ [(y, y)]) := by rw [List.nil_append, joinR_one, rtextS_one, joinR_nil, nil_app]
theorem text2 {y z : Nat} (h : y < z) : joinR [] ++ decS y ++ (⟨#[45]⟩ ++ decS z) = joinR ([] ++ [(y, z)]) := by rw [List.nil_append, joinR_one, rtextS_two y z h, joinR_nil, nil_app]
theorem text3 (R : List (Nat × Nat)) (hR : R ≠ []) (y : Nat) : joinR R ++ ⟨#[44]⟩ ++ decS y = joinR (R ++ [(y, y)]) := by rw [joinR_snoc R _ hR, rtextS_one]
theorem text4 (R : List (Nat × Nat)) (hR : R ≠ []) {y z : Nat} (h : y < z) : joinR R ++ ⟨#[44]⟩ ++ decS y ++ (⟨#[45]⟩ ++ decS z) = joinR (R ++ [(y, z)]) := by rw [joinR_snoc R _ hR, rtextS_two y z h, ByteArray.append_assoc]
theorem str_nonempty {s : ByteArray} (h : 0 < s.size) : s.toList ≠ [] := fun e => by
  rw [ByteArray.toList_eq] at e
  have : s.data.toList.length = s.size := Array.length_toList
  rw [e] at this; simp at this; omega
attribute [local irreducible] decS rtextS joinR maskS
set_option maxRecDepth 100000 in
set_option maxHeartbeats 4000000 in
theorem rmfmt_mid (m : Nat) (w : World) (hm : m < 18446744073709551616) (h0 : m % 4294967296 ≠ 0) (h1 : m % 4294967296 ≠ 4294967295) :
    Calls Tryz.prog 127 #[.int .u64 (m : Int)] w fun e w' => e = .returned (.string (maskS m)) ∧ Below w.heap.size w w' := by
  have HMS := Lib.hid (show maskS m = joinR (grp (memF m 0)) by unfold maskS joinR; rw [if_neg h1, if_neg h0])
  have hl0 : (memF m 0).length ≠ 0 := fun e => h0 ((len_none m).1 e)
  have hl32 : (memF m 0).length ≠ 32 := fun e => h1 ((len_all m).1 e)
  have hl := memF_len m 0
  have HL := Lib.hid (fun x (hx : x ∈ memF m 0) => (memF_ge m 0 x hx).2)
  have HR := Lib.hid (rlist m w hm)
  clear h0 h1 hm
  go_enter Tryz.func127, Tryz.ntmps127
  go_wp2_with fail
  refine HR.out.mono ?_
  rintro e w1 ⟨v, rfl, hown, hb1⟩
  generalize memF m 0 = L at *
  obtain ⟨_, A, c, hv, hI⟩ := ints_own hown
  subst hv
  have HI := Lib.hid hI
  have d0 : ((L.length : Int) == 0) = false := beq_eq_false_iff_ne.2 (by omega)
  have d1 : ((L.length : Int) == 32) = false := beq_eq_false_iff_ne.2 (by omega)
  clear hown hI hl0 hl32
  go_wp2_with fail
  go_loopw [4, 5] (fun s x wr => ∃ (i : Nat) (R : List (Nat × Nat)), i ≤ L.length ∧ x = .int .i64 (i : Int) ∧ s = .string (joinR R) ∧ R.length ≤ i ∧ Below w1.heap.size w1 wr ∧ Hid (SegLeft L i R)) (fun _ x _ => L.length - (intOf x).toNat)
  case atStart => exact ⟨0, [], by omega, rfl, by rw [show joinR [] = ⟨#[]⟩ by unfold joinR; rfl], by simp, Below.refl _ _, by exact ⟨rfl, by simp⟩⟩
  case round =>
    obtain ⟨i, R, hi, rfl, rfl, hR, hbr, hseg⟩ := hrel
    by_cases hlt : i < L.length
    · go_wp2_with fail
      obtain ⟨wo, rfl⟩ : ∃ wo : World, wo = wr := ⟨_, rfl⟩
      go_loopw [6] (fun x wr => ∃ k : Nat, i ≤ k ∧ k < L.length ∧ x = .int .i64 (k : Int) ∧ Below w1.heap.size w1 wr ∧ Hid (SegOk L i k)) (fun x _ => L.length - (intOf x).toNat)
      case atStart => exact ⟨i, by omega, hlt, rfl, hbr, SegOk.start L i⟩
      case round =>
        obtain ⟨k, hik, hkl, rfl, hbk, hall⟩ := hrel
        have a1 : (0 : Int) ≤ (k : Int) := by omega
        have a2 : (k : Int) < (L.length : Int) := by omega
        have a3 : (0 : Int) ≤ (k : Int) + 1 := by omega
        have a5 : IntKind.i64.wrap ((k : Int) + 1) = (k : Int) + 1 := IntWalk.i64_in _ (by omega)
        obtain ⟨ad, hA, _, hck⟩ := ints_getD (HI.out.keep hbk) k hkl
        subst hA
        have hy := getD_lt HL.out k
        by_cases hn : k + 1 < L.length
        · obtain ⟨ad', hA', _, hck1⟩ := ints_getD (HI.out.keep hbk) (k + 1) hn
          injection hA' with hA'
          subst hA'
          have hck2 : wr.cell? ⟨ad.block, ad.off + (k + 1), none⟩ = some (.int .i64 ((L.getD (k + 1) 0 : Nat) : Int)) := by simpa [Addr.add] using hck1
          have a4 : (k : Int) + 1 < (L.length : Int) := by omega
          have d2 : decide ((k : Int) + 1 < (L.length : Int)) = true := by simp; omega
          have a6 : ((k : Int) + 1).toNat = k + 1 := by omega
          by_cases he : L.getD (k + 1) 0 = L.getD k 0 + 1
          · have HE := Lib.hid (hall.out.more hik he)
            generalize L.getD (k + 1) 0 = y1 at *
            generalize L.getD k 0 = y at *
            have a7 : IntKind.i64.wrap ((y : Int) + 1) = (y : Int) + 1 := IntWalk.i64_in _ (by omega)
            have e1 : ((y1 : Int) == (y : Int) + 1) = true := by simp; omega
            clear he
            go_wp2_with fail
            go_quiet (fail)
            clear a5 a6 a7
            go_wp2_with fail
            go_roundw
            case rel => exact ⟨k + 1, by omega, hn, by go_num, below_drewN hbk _, HE⟩
            case measure => simp [intOf]; omega
          · have HN := Lib.hid (hseg.out.next HL.out (hall.out.grp hik hkl (.inr he)))
            have a7 : IntKind.i64.wrap (((L.getD k 0 : Nat) : Int) + 1) = ((L.getD k 0 : Nat) : Int) + 1 := IntWalk.i64_in _ (by omega)
            have e1 : (((L.getD (k + 1) 0 : Nat) : Int) == ((L.getD k 0 : Nat) : Int) + 1) = false := beq_eq_false_iff_ne.2 (by omega)
            have hz := getD_lt HL.out (k + 1)
            clear he
            generalize hY : L.getD (k + 1) 0 = y1 at *
            have HY := Lib.hid hY
            generalize hZ : L.getD k 0 = z0 at *
            have HZ := Lib.hid hZ
            clear hY hZ
            go_wp2_with fail
            go_quiet (fail)
            clear a5 a6 a7 e1 hck1 hck2 d2
            have hZ := HZ.out
            subst hZ
            obtain ⟨ad'', hA'', _, hci⟩ := ints_getD (HI.out.keep hbk) i hlt
            injection hA'' with hA''
            subst hA''
            have hyi := getD_lt HL.out i
            have zi := decS_size2 (L.getD i 0) (by omega)
            have zk := decS_size2 (L.getD k 0) (by omega)
            by_cases hke : i < k
            · have hyk : L.getD i 0 < L.getD k 0 := by have := hall.out k hik (Nat.le_refl _); omega
              clear hall
              generalize L.getD i 0 = y at *
              generalize L.getD k 0 = z at *
              by_cases hRe : R = []
              · subst hRe
                have e0 : (joinR []).toList.isEmpty = true := by rw [joinR_e]; rfl
                have e1 : (joinR []).toList = [] := joinR_e
                have js : (joinR []).size ≤ 192 := by rw [joinR_nil]; decide
                go_wp2_with fail
                refine (decimal y _ (by omega)).mono ?_
                rintro e w' ⟨rfl, rfl⟩
                go_wp2_with fail
                refine (decimal z _ (by omega)).mono ?_
                rintro e w' ⟨rfl, rfl⟩
                go_wp2_with fail
                go_roundw
                case rel => exact ⟨k + 1, [] ++ [(y, z)], by omega, by go_num, congrArg Value.string (text2 hyk), by simp, below_drewN hbk _, HN⟩
                case measure => simp [intOf]; omega
              · have e0 : (joinR R).toList.isEmpty = false := by simpa using str_nonempty (joinR_ne R hRe)
                have e1 : (joinR R).toList ≠ [] := str_nonempty (joinR_ne R hRe)
                have js : (joinR R).size ≤ 192 := by have := joinR_size R hseg.out.2; omega
                go_wp2_with fail
                refine (decimal y _ (by omega)).mono ?_
                rintro e w' ⟨rfl, rfl⟩
                go_wp2_with fail
                refine (decimal z _ (by omega)).mono ?_
                rintro e w' ⟨rfl, rfl⟩
                go_wp2_with fail
                go_roundw
                case rel => exact ⟨k + 1, R ++ [(y, z)], by omega, by go_num, congrArg Value.string (text4 _ hRe hyk), by simp; omega, below_drewN hbk _, HN⟩
                case measure => simp [intOf]; omega
            · obtain rfl : k = i := by omega
              clear hall hci
              generalize L.getD k 0 = y at *
              by_cases hRe : R = []
              · subst hRe
                have e0 : (joinR []).toList.isEmpty = true := by rw [joinR_e]; rfl
                have e1 : (joinR []).toList = [] := joinR_e
                have js : (joinR []).size ≤ 192 := by rw [joinR_nil]; decide
                go_wp2_with fail
                refine (decimal y _ (by omega)).mono ?_
                rintro e w' ⟨rfl, rfl⟩
                go_wp2_with fail
                go_roundw
                case rel => exact ⟨k + 1, [] ++ [(y, y)], by omega, by go_num, congrArg Value.string (text1 _), by simp, below_drewN hbk _, HN⟩
                case measure => simp [intOf]; omega
              · have e0 : (joinR R).toList.isEmpty = false := by simpa using str_nonempty (joinR_ne R hRe)
                have e1 : (joinR R).toList ≠ [] := str_nonempty (joinR_ne R hRe)
                have js : (joinR R).size ≤ 192 := by have := joinR_size R hseg.out.2; omega
                go_wp2_with fail
                refine (decimal y _ (by omega)).mono ?_
                rintro e w' ⟨rfl, rfl⟩
                go_wp2_with fail
                go_roundw
                case rel => exact ⟨k + 1, R ++ [(y, y)], by omega, by go_num, congrArg Value.string (text3 _ hRe _), by simp; omega, below_drewN hbk _, HN⟩
                case measure => simp [intOf]; omega
        · have HN := Lib.hid (hseg.out.next HL.out (hall.out.grp hik hkl (.inl (by omega))))
          have d2 : decide ((k : Int) + 1 < (L.length : Int)) = false := by simp; omega
          generalize hZ : L.getD k 0 = z0 at *
          have HZ := Lib.hid hZ
          clear hZ
          go_wp2_with fail
          go_quiet (fail)
          clear a5 d2
          have hZ := HZ.out
          subst hZ
          obtain ⟨ad'', hA'', _, hci⟩ := ints_getD (HI.out.keep hbk) i hlt
          injection hA'' with hA''
          subst hA''
          have hyi := getD_lt HL.out i
          have zi := decS_size2 (L.getD i 0) (by omega)
          have zk := decS_size2 (L.getD k 0) (by omega)
          by_cases hke : i < k
          · have hyk : L.getD i 0 < L.getD k 0 := by have := hall.out k hik (Nat.le_refl _); omega
            clear hall
            generalize L.getD i 0 = y at *
            generalize L.getD k 0 = z at *
            by_cases hRe : R = []
            · subst hRe
              have e0 : (joinR []).toList.isEmpty = true := by rw [joinR_e]; rfl
              have e1 : (joinR []).toList = [] := joinR_e
              have js : (joinR []).size ≤ 192 := by rw [joinR_nil]; decide
              go_wp2_with fail
              refine (decimal y _ (by omega)).mono ?_
              rintro e w' ⟨rfl, rfl⟩
              go_wp2_with fail
              refine (decimal z _ (by omega)).mono ?_
              rintro e w' ⟨rfl, rfl⟩
              go_wp2_with fail
              go_roundw
              case rel => exact ⟨k + 1, [] ++ [(y, z)], by omega, by go_num, congrArg Value.string (text2 hyk), by simp, below_drewN hbk _, HN⟩
              case measure => simp [intOf]; omega
            · have e0 : (joinR R).toList.isEmpty = false := by simpa using str_nonempty (joinR_ne R hRe)
              have e1 : (joinR R).toList ≠ [] := str_nonempty (joinR_ne R hRe)
              have js : (joinR R).size ≤ 192 := by have := joinR_size R hseg.out.2; omega
              go_wp2_with fail
              refine (decimal y _ (by omega)).mono ?_
              rintro e w' ⟨rfl, rfl⟩
              go_wp2_with fail
              refine (decimal z _ (by omega)).mono ?_
              rintro e w' ⟨rfl, rfl⟩
              go_wp2_with fail
              go_roundw
              case rel => exact ⟨k + 1, R ++ [(y, z)], by omega, by go_num, congrArg Value.string (text4 _ hRe hyk), by simp; omega, below_drewN hbk _, HN⟩
              case measure => simp [intOf]; omega
          · obtain rfl : k = i := by omega
            clear hall hci
            generalize L.getD k 0 = y at *
            by_cases hRe : R = []
            · subst hRe
              have e0 : (joinR []).toList.isEmpty = true := by rw [joinR_e]; rfl
              have e1 : (joinR []).toList = [] := joinR_e
              have js : (joinR []).size ≤ 192 := by rw [joinR_nil]; decide
              go_wp2_with fail
              refine (decimal y _ (by omega)).mono ?_
              rintro e w' ⟨rfl, rfl⟩
              go_wp2_with fail
              go_roundw
              case rel => exact ⟨k + 1, [] ++ [(y, y)], by omega, by go_num, congrArg Value.string (text1 _), by simp, below_drewN hbk _, HN⟩
              case measure => simp [intOf]; omega
            · have e0 : (joinR R).toList.isEmpty = false := by simpa using str_nonempty (joinR_ne R hRe)
              have e1 : (joinR R).toList ≠ [] := str_nonempty (joinR_ne R hRe)
              have js : (joinR R).size ≤ 192 := by have := joinR_size R hseg.out.2; omega
              go_wp2_with fail
              refine (decimal y _ (by omega)).mono ?_
              rintro e w' ⟨rfl, rfl⟩
              go_wp2_with fail
              go_roundw
              case rel => exact ⟨k + 1, R ++ [(y, y)], by omega, by go_num, congrArg Value.string (text3 _ hRe _), by simp; omega, below_drewN hbk _, HN⟩
              case measure => simp [intOf]; omega
    · have HF := Lib.hid (show joinR R = maskS m by
        have := hseg.out.1
        rw [List.drop_eq_nil_of_le (by omega)] at this
        rw [HMS.out, ← this]; simp [grp])
      go_wp2_with fail
      go_ret
      exact ⟨retS HF.out, hb1.trans (hbr.mono hb1.size)⟩
set_option maxHeartbeats 400000 in
theorem rmfmt (m : Nat) (w : World) (hm : m < 18446744073709551616) :
    Calls Tryz.prog 127 #[.int .u64 (m : Int)] w fun e w' => e = .returned (.string (maskS m)) ∧ Below w.heap.size w w' := by
  by_cases h0 : m % 4294967296 = 0
  · have H := Lib.hid (show maskS m = ⟨#[110, 111, 110, 101]⟩ by unfold maskS; rw [if_neg (by omega), if_pos h0])
    have HR := Lib.hid (rlist m w hm)
    have hl := (len_none m).2 h0
    clear h0 hm
    go_enter Tryz.func127, Tryz.ntmps127
    go_wp2_with fail
    refine HR.out.mono ?_
    rintro e w1 ⟨v, rfl, hown, hb1⟩
    obtain ⟨_, A, c, hv, _⟩ := ints_own hown
    rw [hl] at hv
    subst hv
    clear hown hl
    go_wp2_with fail
    go_ret
    exact ⟨retS H.out.symm, hb1⟩
  · by_cases h1 : m % 4294967296 = 4294967295
    · have H := Lib.hid (show maskS m = ⟨#[97, 108, 108]⟩ by unfold maskS; rw [if_pos h1])
      have HR := Lib.hid (rlist m w hm)
      have hl := (len_all m).2 h1
      clear h0 h1 hm
      go_enter Tryz.func127, Tryz.ntmps127
      go_wp2_with fail
      refine HR.out.mono ?_
      rintro e w1 ⟨v, rfl, hown, hb1⟩
      obtain ⟨_, A, c, hv, _⟩ := ints_own hown
      rw [hl] at hv
      subst hv
      clear hown hl
      go_wp2_with fail
      go_ret
      exact ⟨retS H.out.symm, hb1⟩
    · exact rmfmt_mid m w hm h0 h1
end Go.Proofs.YtollifnnpihfdaaGreatDoor
/- Format of the program's rules returns fmtR. -/
namespace Go.Proofs.YtollifnnpihfdaaGreatDoor
open Go.RowKit
/-- What of variables the rules' functions read. -/
structure RGlob (w : World) : Prop where
  li : RLists w
  ac : RActs w
  pb : RPerm w
  fn : FNames w
  fo : FOps w
  tb : Tab w
  pw : Pow w
theorem RGlob.below {w w' : World} (h : RGlob w) (hb : Below w.heap.size w w') : RGlob w' := ⟨h.li.below hb, h.ac.below hb, h.pb.below hb, h.fn.below hb, h.fo.below hb, h.tb.below hb (Nat.le_refl _), h.pw.below hb (Nat.le_refl _)⟩
/-- What Format keeps: the rule's box, and the words so far. -/
structure FSt (w wr : World) (r : Rul) (s v : Value) (W : List ByteArray) : Prop where
  g : RulB wr w.heap.size r s
  own : OwnS wr (w.heap.size + 1) v W
  low : Below w.heap.size w wr
section
variable {w wr w' : World} {r : Rul} {s v : Value} {W : List ByteArray}
theorem FSt.below (h : FSt w wr r s v W) (hb : Below wr.heap.size wr w') : FSt w w' r s v W := ⟨Blk.below h.g hb, h.own.below hb, below_then h.low hb⟩
theorem FSt.alloc (h : FSt w wr r s v W) (o : Obj) : FSt w (wr.alloc o) r s v W := h.below ((Below.refl _ _).alloc (Nat.le_refl _) _)
theorem FSt.drewN (h : FSt w wr r s v W) (n : Nat) : FSt w (wr.drewN n) r s v W := h.below (below_drewN (Below.refl _ _) n)
theorem FSt.drew (h : FSt w wr r s v W) : FSt w wr.drew r s v W := h.below (Below.refl wr.heap.size wr).drew
theorem FSt.app (h : FSt w wr r s v W) {o : Obj} {v4 : Value} {w4 : World} {L : List ByteArray} (own : OwnS w4 (w.heap.size + 1) v4 L) (hg : (wr.alloc o).grownBy w4 v.ownBlock) : FSt w w4 r s v4 L := by
  have h1 := h.alloc o
  have ho : ∀ k, v.ownBlock = some k → w.heap.size + 1 ≤ k := fun k hk => h.own.ge k hk
  have hlt := h.g.lt
  exact ⟨h1.g.grown hg (fun e => by have := ho _ e; omega), own, h1.low.grown hg (by simp; omega) (fun k hk => by have := ho k hk; omega)⟩
theorem FSt.lt (h : FSt w wr r s v W) : w.heap.size < wr.heap.size := h.g.lt
end
/-- Two words of the call's own. -/
theorem two_new_S (w : World) (x y : ByteArray) (t : TypeId) : StrsAt (w.alloc (.cells #[.string x, .string y] t)) (w.heap.size + 1) (some ⟨w.heap.size, 0, none⟩) [x, y] := fun k hk => by
  have hc : k = 0 ∨ k = 1 := by simp at hk; omega
  rcases hc with rfl | rfl
  · exact ⟨_, rfl, by show w.heap.size < _; omega, by show World.cell? _ ⟨w.heap.size, 0, none⟩ = _; rw [(Blk.new w #[.string x, .string y] t).cell]; rfl⟩
  · exact ⟨_, rfl, by show w.heap.size < _; omega, by show World.cell? _ ⟨w.heap.size, 1, none⟩ = _; rw [(Blk.new w #[.string x, .string y] t).cell]; rfl⟩
theorem OwnS.two (w : World) {base : Nat} (hb : base ≤ w.heap.size) (x y : ByteArray) : OwnS (w.alloc (.cells #[.string x, .string y] 9)) base (.slice (some ⟨w.heap.size, 0, none⟩) 2 2) [x, y] :=
  World.ownsRow_lit w #[.string x, .string y] 2 hb (by unfold maxLen; omega) rfl
theorem four_new_S (w : World) (x y z u : ByteArray) (t : TypeId) : StrsAt (w.alloc (.cells #[.string x, .string y, .string z, .string u] t)) (w.heap.size + 1) (some ⟨w.heap.size, 0, none⟩) [x, y, z, u] := fun k hk => by
  have hc : k = 0 ∨ k = 1 ∨ k = 2 ∨ k = 3 := by simp at hk; omega
  rcases hc with rfl | rfl | rfl | rfl
  · exact ⟨_, rfl, by show w.heap.size < _; omega, by show World.cell? _ ⟨w.heap.size, 0, none⟩ = _; rw [(Blk.new w #[.string x, .string y, .string z, .string u] t).cell]; rfl⟩
  · exact ⟨_, rfl, by show w.heap.size < _; omega, by show World.cell? _ ⟨w.heap.size, 1, none⟩ = _; rw [(Blk.new w #[.string x, .string y, .string z, .string u] t).cell]; rfl⟩
  · exact ⟨_, rfl, by show w.heap.size < _; omega, by show World.cell? _ ⟨w.heap.size, 2, none⟩ = _; rw [(Blk.new w #[.string x, .string y, .string z, .string u] t).cell]; rfl⟩
  · exact ⟨_, rfl, by show w.heap.size < _; omega, by show World.cell? _ ⟨w.heap.size, 3, none⟩ = _; rw [(Blk.new w #[.string x, .string y, .string z, .string u] t).cell]; rfl⟩
/-- The words of the first k tests. -/
def testsW (ts : List Tst) (k : Nat) : List ByteArray := partW ((ts.take k).map .tst)
theorem testsW_zero (ts : List Tst) : testsW ts 0 = [] := rfl
theorem testsW_next {ts : List Tst} {k : Nat} (hk : k < ts.length) : testsW ts (k + 1) = testsW ts k ++ [(Part.tst ts[k]).flag, (ts[k]).txt] := by
  unfold testsW
  rw [List.take_succ_eq_append_getElem hk, List.map_append]
  unfold partW
  rw [List.flatMap_append]; rfl
theorem testsW_len (ts : List Tst) (k : Nat) (hk : k ≤ ts.length) : (testsW ts k).length = 2 * k := by
  unfold testsW
  rw [partW_len, List.length_map, List.length_take, Nat.min_eq_left hk]
theorem wordsR_split (r : Rul) : restR r = headW r :: (callW r ++ (testsW r.ts r.ts.length ++ (partW (watchP r) ++ keyW r.ke))) := by
  unfold restR testsW partsR
  rw [List.take_length]
  unfold partW
  rw [List.flatMap_append]
  simp
theorem flag_tst (t : Tst) : (Part.tst t).flag = if t.ot ≠ 0 then fC else fF := rfl
theorem part_size (p : Part) (h : p.ok) (ht : ∀ t, p = .tst t → t.tx.size ≤ 640) : p.txt.size ≤ 2100 ∧ p.flag.size ≤ 2 := by
  cases p with
  | tst t =>
    refine ⟨?_, by rw [flag_tst]; split <;> decide⟩
    have h0 : anyE t.fd t.op t.nu t.tx t.ot = 0 := h.1
    have hx := ht t rfl
    show (testS t.fd t.op t.nu t.tx t.ot).size ≤ 2100
    unfold testS
    rw [if_pos h0]
    have h1 := field_len t.fd.toNat
    have h2 := op_len t.op.toNat
    have h3 : (valS t.fd t.nu t.tx t.ot).size ≤ 1300 := by
      unfold valS
      split
      · have := field_len t.ot.toNat; omega
      · split
        · exact quoteS_leF t.tx hx
        · have := numS_lenF t.nu h.2.1 h.2.2; omega
    rw [ByteArray.size_append, ByteArray.size_append]; omega
  | fil q =>
    have hq : q.size ≤ 128 := h
    refine ⟨?_, by show fF.size ≤ 2; decide⟩
    have := quoteS_leF q (by omega)
    show (pathW ++ quoteS q).size ≤ 2100
    rw [ByteArray.size_append]; have e : pathW.size = 5 := rfl; omega
  | dir q =>
    have hq : q.size ≤ 128 := h
    refine ⟨?_, by show fF.size ≤ 2; decide⟩
    have := quoteS_leF q (by omega)
    show (dirW ++ quoteS q).size ≤ 2100
    rw [ByteArray.size_append]; have e : dirW.size = 4 := rfl; omega
  | prm n =>
    refine ⟨?_, by show fF.size ≤ 2; decide⟩
    show (permW ++ permS n).size ≤ 2100
    rw [ByteArray.size_append]
    have e : permW.size = 5 := rfl
    have : (permS n).size ≤ 4 := by rw [permS_bits, ← permK_all]; exact permK_size _ _ _ _ _
    omega
theorem tx_small {t : Tst} {l : Int} (h : t.chk l = 0) : t.tx.size ≤ 640 := by
  obtain ⟨h1, h2, h3, h4, h5, h6, h7⟩ := checkF_zero h
  rcases h6 with h6 | h6
  · rcases h7 with h7 | h7
    · rw [h6] at h7; cases h7
    · omega
  · exact h6.2.2
theorem mask_size (m : Nat) : (maskS m).size ≤ 1000 := by
  unfold maskS
  split
  · decide
  split
  · decide
  · have h1 := join_len ((grp (memF m 0)).map rtext) (fun x hx => by
      obtain ⟨p, hp, rfl⟩ := List.mem_map.1 hx
      exact rtext_len p (grp_small (fun x hx => (memF_ge m 0 x hx).2) p hp))
    have h2 : (grp (memF m 0)).length ≤ 32 := by
      have key : ∀ l : List Nat, (grp l).length ≤ l.length := by
        intro l
        induction l with
        | nil => exact Nat.le_refl _
        | cons a l ih =>
          show (match grp l with | [] => [(a, a)] | (b, c) :: r => if b = a + 1 then (a, c) :: r else (a, a) :: (b, c) :: r).length ≤ _
          cases hg : grp l with
          | nil => simp
          | cons p r =>
            obtain ⟨b, c⟩ := p
            rw [hg] at ih
            simp only
            split
            · simp at ih ⊢; omega
            · simp at ih ⊢; omega
      have h3 := key (memF m 0)
      have h4 : (memF m 0).length ≤ 32 := by unfold memF; exact Nat.le_trans (List.length_filter_le _ _) (by simp)
      omega
    rw [List.length_map] at h1
    show (Lib.join ((grp (memF m 0)).map rtext) [44]).toArray.size ≤ 1000
    simp only [List.size_toArray]
    omega
theorem head_size (r : Rul) : (headW r).size ≤ 20 := by
  have a : ∀ k, (actN k).size ≤ 6 := fun k => by
    by_cases h : k < 3
    · have H : ∀ k : Fin 3, (actN k).size ≤ 6 := by decide +kernel
      exact H ⟨k, h⟩
    · have : actN k = ⟨#[]⟩ := by unfold actN; rw [List.getD_eq_getElem?_getD, List.getElem?_eq_none (by show actL.length ≤ k; have : actL.length = 3 := rfl; omega)]; rfl
      rw [this]; decide
  have b : ∀ k, (listN k).size ≤ 7 := fun k => by
    by_cases h : k < 6
    · have H : ∀ k : Fin 6, (listN k).size ≤ 7 := by decide +kernel
      exact H ⟨k, h⟩
    · have : listN k = ⟨#[]⟩ := by unfold listN; rw [List.getD_eq_getElem?_getD, List.getElem?_eq_none (by show listL.length ≤ k; have : listL.length = 6 := rfl; omega)]; rfl
      rw [this]; decide
  unfold headW
  have h1 := a r.ac.toNat
  have h2 := b r.li.toNat
  rw [ByteArray.size_append, ByteArray.size_append]
  have e : (⟨#[44]⟩ : ByteArray).size = 1 := rfl
  omega
theorem rest_size {r : Rul} (h : GoodR r) : (∀ s ∈ restR r, s.size ≤ 2100) ∧ (restR r).length ≤ 30 := by
  have hc := checkR_zero h.ok
  constructor
  · intro s hs
    rcases List.mem_cons.1 hs with rfl | hs
    · have := head_size r; omega
    rcases List.mem_append.1 hs with hs | hs
    · unfold callW at hs
      split at hs
      · rename_i hcb
        simp at hs
        rcases hs with rfl | rfl
        · decide
        · rcases hc.ca with h1 | h1
          · have := mask_size r.ca; omega
          · rw [h1.1] at hcb; cases hcb
      · cases hs
    rcases List.mem_append.1 hs with hs | hs
    · obtain ⟨p, hp, hs⟩ := List.mem_flatMap.1 hs
      have := part_size p (parts_ok h p hp) (fun t ht => by
        subst ht
        rcases List.mem_append.1 hp with hp | hp
        · obtain ⟨u, hu, e⟩ := List.mem_map.1 hp
          injection e with e; subst e
          exact tx_small (firstE_all hc.tst u hu)
        · unfold watchP at hp
          split at hp
          · simp at hp
          · split at hp
            · simp at hp
            · cases hp)
      simp at hs
      rcases hs with rfl | rfl <;> omega
    · unfold keyW at hs
      split at hs
      · cases hs
      · simp at hs
        rcases hs with rfl | rfl
        · decide
        · have := quoteS_leF r.ke (by have := hc.key; omega); omega
  · have hl := words_len r
    have e : (wordsR r).length = (restR r).length + 1 := rfl
    have h1 : (partsR r).length ≤ 10 := by
      unfold partsR
      rw [List.length_append, List.length_map]
      have := hc.len
      have h2 : (watchP r).length ≤ 2 := by
        unfold watchP
        split
        · simp
        · split <;> simp
      omega
    have h2 : (keyW r.ke).length ≤ 2 := by unfold keyW; split <;> simp
    have h3 : a0R r ≤ 4 := by
      unfold a0R callW
      split <;> simp
    omega
end Go.Proofs.YtollifnnpihfdaaGreatDoor

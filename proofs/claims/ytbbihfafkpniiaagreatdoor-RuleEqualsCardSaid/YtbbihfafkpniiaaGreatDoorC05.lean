/- Texts of one proof, laid together. -/
import Derived.Test.YtbbihfafkpniiaaGreatDoorC04
import Derived.Test.YtbbihfafkpniiaaGreatDoorC02
import Derived.IntWalk
import Derived.Lib.AtoiAllCases
/- Unquote of the reference returns unqS and unqE. -/
namespace Go.Proofs.YtbbihfafkpniiaaGreatDoor
open Go.RowKit
theorem quoteS_list (t : ByteArray) (h : t.size ≤ 640) : (quoteS t).data.toList = quoteL t.data.toList := by
  unfold quoteS; rw [if_neg (by omega)]
theorem quoteE_zero {t : ByteArray} : quoteE t = 0 ↔ t.size ≤ 640 := by
  unfold quoteE; split <;> simp <;> omega
theorem quotes_iff (s t : ByteArray) : (quoteE t = 0 ∧ quoteS t = s) ↔ Quotes s.data.toList t.data.toList := by
  rw [quoteE_zero]
  unfold Quotes
  rw [Array.length_toList]
  constructor
  · rintro ⟨h1, h2⟩
    refine ⟨?_, h1⟩
    rw [← quoteS_list t h1, h2]
  · rintro ⟨h1, h2⟩
    refine ⟨h2, ?_⟩
    have := quoteS_list t h2
    rw [h1] at this
    apply ByteArray.ext; exact Array.toList_inj.1 this
/-- A text that begins with a quotation mark is the quoted form of its middle, or of nothing. -/
theorem quotes_A {s : ByteArray} {u : List UInt8} (hs : 2 ≤ s.size) (h0 : ((s[0].toNat : Int) == 34) = true) (h : Quotes s.data.toList u) : u = (s.extract 1 (s.size - 1)).data.toList := by
  have e0 : s[0] = 34 := byte_eq (n := 34) (by omega) h0
  have hh := head_list s (by omega)
  rw [mid_list]
  obtain ⟨h1, _⟩ := h
  unfold quoteL at h1
  rw [← h1]
  cases hu : safeB u <;> simp only [hu] at h1 ⊢
  · rw [← h1, e0] at hh
    simp at hh
  · simp
theorem quotes_B {s : ByteArray} {u : List UInt8} (hs : 1 ≤ s.size) (h0 : ((s[0].toNat : Int) == 34) = false) (h : Quotes s.data.toList u) :
    ((s[0].toNat : Int) == 120) = true ∧ 3 ≤ s.size ∧ s.size % 2 = 1 ∧ s.size ≤ 1281 ∧ unhexL s.data.toList.tail = some u := by
  have hh := head_list s (by omega)
  have hl : s.data.toList.length = s.size := Array.length_toList
  obtain ⟨h1, h2⟩ := h
  unfold quoteL at h1
  cases hu : safeB u <;> simp only [hu] at h1
  · have hne : u ≠ [] := fun e => by subst e; cases hu
    have hpos : 0 < u.length := List.length_pos_iff.2 hne
    rw [← h1] at hh hl ⊢
    simp only [Bool.false_eq_true, if_false, List.cons.injEq, List.tail_cons, List.length_cons, hexL_length] at hh hl ⊢
    refine ⟨by rw [← hh.1]; rfl, by omega, by omega, by omega, unhexL_hexL u⟩
  · rw [← h1] at hh
    simp only [if_true, List.cons.injEq] at hh
    rw [← hh.1] at h0; cases h0
abbrev RUnq (s : ByteArray) (w : World) : Prop := Calls Tryz.prog 96 #[.string s] w fun e w' => e = .returned (.tuple #[.string (unqS s), .int .i64 (unqE s)]) ∧ Below w.heap.size w w'
theorem unq_yes {s t : ByteArray} (h : quoteE t = 0 ∧ quoteS t = s) : unqO s.data.toList = some t.data.toList := unqO_of ((quotes_iff s t).1 h)
theorem quoteE_cases (t : ByteArray) : quoteE t = 0 ∨ quoteE t = 20 := by unfold quoteE; split <;> simp
theorem unqO_A_none {s : ByteArray} (hs : 2 ≤ s.size) (h0 : ((s[0].toNat : Int) == 34) = true) (h : ¬ (quoteE (s.extract 1 (s.size - 1)) = 0 ∧ quoteS (s.extract 1 (s.size - 1)) = s)) : unqO s.data.toList = none :=
  unqO_none fun u hu => h ((quotes_iff s _).2 (by rw [← quotes_A hs h0 hu]; exact hu))
set_option maxHeartbeats 1000000 in
theorem runq_A1 (s : ByteArray) (w : World) (hs : s.size ≤ 1000000) (h2 : 2 ≤ s.size) (h0 : ((s[0].toNat : Int) == 34) = true) (hok : quoteE (s.extract 1 (s.size - 1)) = 0 ∧ quoteS (s.extract 1 (s.size - 1)) = s) : RUnq s w := by
  have hz := extract_size s hs 1 (s.size - 1)
  have H := Lib.hid (unq_yes hok)
  obtain ⟨k1, k2⟩ := hok
  have K1 := Lib.hid k1
  have K2 := Lib.hid k2
  clear k1 k2
  go_enter Tryz.func96, Tryz.ntmps96
  go_wp2_with fail
  refine (rquote _ _ (by unfold maxLen; omega)).mono ?_
  rintro e w' ⟨rfl, hb⟩
  rw [K1.out, K2.out]
  go_wp2_with fail
  go_ret2
  exact ⟨tup (by rw [unqS_some H.out]) (unqE_some H.out).symm, hb⟩
set_option maxHeartbeats 1000000 in
theorem runq_A2 (s : ByteArray) (w : World) (hs : s.size ≤ 1000000) (h2 : 2 ≤ s.size) (h0 : ((s[0].toNat : Int) == 34) = true) (k1 : quoteE (s.extract 1 (s.size - 1)) = 0) (k2 : quoteS (s.extract 1 (s.size - 1)) ≠ s) : RUnq s w := by
  have hz := extract_size s hs 1 (s.size - 1)
  have H := Lib.hid (unqO_A_none h2 h0 (fun h => k2 h.2))
  have K1 := Lib.hid k1
  have k3 := str_ne k2
  clear k1 k2
  go_enter Tryz.func96, Tryz.ntmps96
  go_wp2_with fail
  refine (rquote _ _ (by unfold maxLen; omega)).mono ?_
  rintro e w' ⟨rfl, hb⟩
  rw [K1.out]
  go_wp2_with fail
  go_ret2
  exact ⟨tup (unqS_none H.out).symm (unqE_none H.out).symm, hb⟩
set_option maxHeartbeats 1000000 in
theorem runq_A3 (s : ByteArray) (w : World) (hs : s.size ≤ 1000000) (h2 : 2 ≤ s.size) (h0 : ((s[0].toNat : Int) == 34) = true) (k1 : quoteE (s.extract 1 (s.size - 1)) = 20) : RUnq s w := by
  have hz := extract_size s hs 1 (s.size - 1)
  have H := Lib.hid (unqO_A_none h2 h0 (fun h => by rw [k1] at h; exact absurd h.1 (by decide)))
  have K1 := Lib.hid k1
  clear k1
  go_enter Tryz.func96, Tryz.ntmps96
  go_wp2_with fail
  refine (rquote _ _ (by unfold maxLen; omega)).mono ?_
  rintro e w' ⟨rfl, hb⟩
  rw [K1.out]
  go_wp2_with fail
  go_ret2
  exact ⟨tup (unqS_none H.out).symm (unqE_none H.out).symm, hb⟩
theorem quote_empty : quoteE ⟨#[]⟩ = 0 ∧ quoteS ⟨#[]⟩ = ⟨#[34, 34]⟩ := by decide +kernel
set_option maxHeartbeats 1000000 in
theorem runq_R3 (s : ByteArray) (w : World) (hs : s.size ≤ 1000000) (hn : ⟨#[34, 34]⟩ ≠ s) (H : Hid (unqO s.data.toList = none))
    (h : s.size < 2 ∨ (∃ _ : 0 < s.size, ((s[0].toNat : Int) == 34) = false ∧ (s.size = 2 ∨ (3 ≤ s.size ∧ ((s[0].toNat : Int) == 120) = false) ∨ (3 ≤ s.size ∧ ((s[0].toNat : Int) == 120) = true ∧ (s.size % 2 = 0 ∨ (s.size % 2 = 1 ∧ 1281 < s.size)))))) : RUnq s w := by
  obtain ⟨q1, q2⟩ := quote_empty
  have Q1 := Lib.hid q1
  have Q2 := Lib.hid q2
  have k3 : (([34, 34] : List UInt8) == s.toList) = false := by
    have := str_ne hn
    rwa [show (⟨#[34, 34]⟩ : ByteArray).toList = [34, 34] from ByteArray.toList_mk [34, 34]] at this
  have hp : ∀ w, Calls Tryz.prog 66 #[.string ⟨#[]⟩] w fun e w' => e = .returned (.tuple #[.string ⟨#[34, 34]⟩, .int .i64 0]) ∧ Below w.heap.size w w' := fun w => by
    have := rquote ⟨#[]⟩ w (by unfold maxLen; decide)
    rw [q1, q2] at this; exact this
  have HP := Lib.hid hp
  clear q1 q2 hn hp
  rcases h with h | ⟨hp, h34, h | ⟨h3, h120⟩ | ⟨h3, h120, h | ⟨h, h5⟩⟩⟩
  · go_enter Tryz.func96, Tryz.ntmps96
    go_wp2_with fail
    refine (HP.out _).mono ?_
    rintro e w' ⟨rfl, hb⟩
    go_wp2_with fail
    go_ret2
    exact ⟨tup (unqS_none H.out).symm (unqE_none H.out).symm, hb⟩
  · have h2 : (s.size : Int) ≤ 2 := by omega
    have h2' : 2 ≤ (s.size : Int) := by omega
    clear h
    go_enter Tryz.func96, Tryz.ntmps96
    go_wp2_with fail
    refine (HP.out _).mono ?_
    rintro e w' ⟨rfl, hb⟩
    go_wp2_with fail
    go_ret2
    exact ⟨tup (unqS_none H.out).symm (unqE_none H.out).symm, hb⟩
  · have h2' : 2 ≤ (s.size : Int) := by omega
    go_enter Tryz.func96, Tryz.ntmps96
    go_wp2_with fail
    refine (HP.out _).mono ?_
    rintro e w' ⟨rfl, hb⟩
    go_wp2_with fail
    go_ret2
    exact ⟨tup (unqS_none H.out).symm (unqE_none H.out).symm, hb⟩
  · have h2' : 2 ≤ (s.size : Int) := by omega
    have h4 : ((s.size : Int) % 2 == 1) = false := by simp; omega
    clear h
    go_enter Tryz.func96, Tryz.ntmps96
    go_wp2_with fail
    refine (HP.out _).mono ?_
    rintro e w' ⟨rfl, hb⟩
    go_wp2_with fail
    go_ret2
    exact ⟨tup (unqS_none H.out).symm (unqE_none H.out).symm, hb⟩
  · have h2' : 2 ≤ (s.size : Int) := by omega
    have h4 : ((s.size : Int) % 2 == 1) = true := by simp; omega
    clear h
    go_enter Tryz.func96, Tryz.ntmps96
    go_wp2_with fail
    refine (HP.out _).mono ?_
    rintro e w' ⟨rfl, hb⟩
    go_wp2_with fail
    go_ret2
    exact ⟨tup (unqS_none H.out).symm (unqE_none H.out).symm, hb⟩
end Go.Proofs.YtbbihfafkpniiaaGreatDoor
/- ReadNumber of the reference. -/
namespace Go.Proofs.YtbbihfafkpniiaaGreatDoor
open Go.RowKit
theorem numS_size (n : Int) (h0 : -9223372036854775808 ≤ n) (h1 : n ≤ 9223372036854775807) : (numS n).size ≤ 20 := by
  have e : (numS n).size = (Lib.itoa n).length := by show (Lib.itoa n).toArray.size = _; simp
  rw [e]; unfold Lib.itoa; split
  · have := dec_len n.natAbs (by omega)
    simp; omega
  · have := dec_len n.toNat (by omega)
    omega
theorem snoc_ind {α : Type} {p : List α → Prop} (h0 : p []) (h1 : ∀ l c, p l → p (l ++ [c])) (l : List α) : p l := by
  have H : ∀ r : List α, p r.reverse := by
    intro r
    induction r with
    | nil => simpa using h0
    | cons a r ih => rw [List.reverse_cons]; exact h1 _ _ ih
  simpa using H l.reverse
theorem w64_in {n : Int} (h0 : -9223372036854775808 ≤ n) (h1 : n ≤ 9223372036854775807) : wrap64 n = n := by unfold wrap64; omega
def rdStep (n : Int) (c : UInt8) : Int := if digB c then wrap64 (wrap64 (n * 10) - ((c.toNat : Int) - 48)) else n
def rdW (l : List UInt8) : Int := l.foldl rdStep 0
theorem rdW_snoc (l : List UInt8) (c : UInt8) : rdW (l ++ [c]) = rdStep (rdW l) c := by simp [rdW, List.foldl_append]
theorem i64_bd (n : Int) : -9223372036854775808 ≤ wrap64 n ∧ wrap64 n ≤ 9223372036854775807 := by unfold wrap64; omega
theorem rdStep_bd {n : Int} (c : UInt8) (h : -9223372036854775808 ≤ n ∧ n ≤ 9223372036854775807) : -9223372036854775808 ≤ rdStep n c ∧ rdStep n c ≤ 9223372036854775807 := by
  unfold rdStep; split
  · exact i64_bd _
  · exact h
theorem rdW_bd (l : List UInt8) : -9223372036854775808 ≤ rdW l ∧ rdW l ≤ 9223372036854775807 := by
  refine snoc_ind (p := fun l => -9223372036854775808 ≤ rdW l ∧ rdW l ≤ 9223372036854775807) (by simp [rdW]) (fun l c ih => ?_) l
  rw [rdW_snoc]; exact rdStep_bd c ih
theorem rdW_dig (l : List UInt8) : l.all digB = true → valD l ≤ 9223372036854775808 → rdW l = -(valD l : Int) := by
  refine snoc_ind (p := fun l => l.all digB = true → valD l ≤ 9223372036854775808 → rdW l = -(valD l : Int)) (fun _ _ => rfl) (fun l c ih hd hv => ?_) l
  · skip
    rw [List.all_append] at hd
    simp only [Bool.and_eq_true, List.all_cons, List.all_nil, Bool.and_true] at hd
    rw [valD_snoc] at hv
    have hc := hd.2
    unfold digB at hc
    simp at hc
    rw [rdW_snoc, ih hd.1 (by omega), valD_snoc, rdStep, if_pos hd.2]
    have e1 : wrap64 (-(valD l : Int) * 10) = -(valD l : Int) * 10 := w64_in (by omega) (by omega)
    rw [e1, w64_in (by omega) (by omega)]
    omega
theorem rdW_neg (l : List UInt8) : rdW (45 :: l) = rdW l := rfl
/-- What ReadNumber makes of a text. -/
def rdN (s : ByteArray) : Int :=
  if s.size = 0 then 0 else if 20 < s.size then 0 else if (s.data.toList.head?.map (·.toNat)) = some 45 then rdW s.data.toList else wrap64 (-(rdW s.data.toList))
theorem rdN_bd (s : ByteArray) : -9223372036854775808 ≤ rdN s ∧ rdN s ≤ 9223372036854775807 := by
  unfold rdN; split
  · omega
  · split
    · omega
    · split
      · exact rdW_bd _
      · exact i64_bd _
theorem numS_list (m : Int) : (numS m).data.toList = Lib.itoa m := by unfold numS; simp
theorem rdN_num (m : Int) (h0 : -9223372036854775808 ≤ m) (h1 : m ≤ 9223372036854775807) : rdN (numS m) = m := by
  have hz := numS_size m h0 h1
  have hl := numS_list m
  have hlen : (numS m).size = (Lib.itoa m).length := by rw [← hl, Array.length_toList]; rfl
  obtain ⟨c, r, hcr, _⟩ := itoa_head m
  have hp : (numS m).size ≠ 0 := by rw [hlen, hcr]; simp
  unfold rdN
  rw [if_neg hp, if_neg (by omega), hl]
  unfold Lib.itoa at *
  split
  · rename_i hneg
    obtain ⟨p1, p2, _⟩ := dec_props m.natAbs
    rw [if_pos (by simp), rdW_neg, rdW_dig _ p2 (by rw [p1]; omega), p1]
    omega
  · rename_i hneg
    obtain ⟨p1, p2, _⟩ := dec_props m.toNat
    obtain ⟨c', r', e, q1, q2⟩ := dec_head m.toNat
    rw [if_neg (by rw [e]; simp; omega), rdW_dig _ p2 (by rw [p1]; omega), p1, w64_in (by omega) (by omega)]
    omega
theorem numS_ext {s : ByteArray} {m : Int} (h : Lib.itoa m = s.data.toList) : numS m = s := bytes_ext (by rw [numS_list, h])
end Go.Proofs.YtbbihfafkpniiaaGreatDoor
/- The walk of ReadNumber of the reference. -/
namespace Go.Proofs.YtbbihfafkpniiaaGreatDoor
open Go.RowKit
theorem digB_lo {c : UInt8} (h : (c.toNat : Int) < 48) : digB c = false := by unfold digB; simp; omega
theorem digB_hi {c : UInt8} (h : 57 < (c.toNat : Int)) : digB c = false := by unfold digB; simp; omega
theorem digB_in {c : UInt8} (h : 48 ≤ (c.toNat : Int)) (k : (c.toNat : Int) ≤ 57) : digB c = true := by unfold digB; simp; omega
theorem rdN_short {s : ByteArray} (hl : s.size ≤ 20) : rdN s = if s.size = 0 then 0 else if (s.data.toList.head?.map (·.toNat)) = some 45 then rdW s.data.toList else wrap64 (-(rdW s.data.toList)) := by
  unfold rdN; split
  · rfl
  · rw [if_neg (by omega)]
theorem head_eq {s : ByteArray} (h : 0 < s.size) : s.data.toList.head? = some s[0] := by
  have h' : 0 < s.data.toList.length := by rw [Array.length_toList]; exact h
  rw [List.head?_eq_getElem?, List.getElem?_eq_getElem h']; rfl
def RdPost (s : ByteArray) (w : World) (e : Ending) (w' : World) : Prop := e = .returned (.tuple #[.int .i64 (rdN s), .bool ((numS (rdN s)).toList == s.toList)]) ∧ w = w'
attribute [local irreducible] numS rdN rdW
set_option maxRecDepth 100000 in
set_option maxHeartbeats 2000000 in
theorem rread (s : ByteArray) (w : World) (hs : s.size ≤ 1000000) : Calls Tryz.prog 122 #[.string s] w (RdPost s w) := by
  by_cases hl : s.size ≤ 20
  · have HD := Lib.hid (rdN_short hl)
    go_enter Tryz.func122, Tryz.ntmps122
    go_wp2_with fail
    go_loop [4, 5] (fun n i => ∃ k : Nat, k ≤ s.size ∧ i = .int .i64 k ∧ n = .int .i64 (rdW (s.data.toList.take k))) (fun _ i => s.size - (intOf i).toNat)
    case atStart => exact ⟨0, Nat.zero_le _, rfl, by unfold rdW; rfl⟩
    case round =>
      obtain ⟨k, hk, rfl, rfl⟩ := hrel
      have hb := rdW_bd (s.data.toList.take k)
      by_cases hlt : k < s.size
      · have HN := Lib.hid (show rdW (s.data.toList.take (k + 1)) = rdStep (rdW (s.data.toList.take k)) s[k] by rw [take_snoc s k hlt, rdW_snoc])
        have hc : (s[k].toNat : Int) ≤ 255 := by have := s[k].toNat_lt; omega
        generalize rdW (s.data.toList.take k) = n at *
        by_cases h1 : 48 ≤ (s[k].toNat : Int)
        · by_cases h2 : (s[k].toNat : Int) ≤ 57
          · have HG := Lib.hid (digB_in h1 h2)
            go_wp2_with fail
            go_round
            case rel => exact ⟨k + 1, by omega, by go_num, by rw [HN.out, rdStep, HG.out]; rfl⟩
            case measure => simp [intOf]; omega
          · have HG := Lib.hid (digB_hi (show 57 < (s[k].toNat : Int) by omega))
            go_wp2_with fail
            go_round
            case rel => exact ⟨k + 1, by omega, by go_num, by rw [HN.out, rdStep, HG.out]; rfl⟩
            case measure => simp [intOf]; omega
        · have HG := Lib.hid (digB_lo (show (s[k].toNat : Int) < 48 by omega))
          go_wp2_with fail
          go_round
          case rel => exact ⟨k + 1, by omega, by go_num, by rw [HN.out, rdStep, HG.out]; rfl⟩
          case measure => simp [intOf]; omega
      · obtain rfl : k = s.size := by omega
        rw [take_all s _ (Nat.le_refl _)] at *
        by_cases h0 : 0 < s.size
        · have hd := head_eq h0
          rw [hd] at HD
          clear hd
          generalize rdW s.data.toList = n at *
          by_cases h45 : (s[0].toNat : Int) = 45
          · have hbq : ((s[0].toNat : Int) != 45) = false := by simpa using h45
            have HE := Lib.hid (show rdN s = n by rw [HD.out, if_neg (by omega), if_pos (by simp; omega)])
            clear h45
            go_wp2_with fail
            refine (rnumber n hb.1 hb.2 _).mono ?_
            rintro e w1 ⟨rfl, rfl⟩
            go_wp2_with fail
            go_ret2
            exact ⟨by rw [HE.out]; rfl, rfl⟩
          · have hbq : ((s[0].toNat : Int) != 45) = true := by simpa using h45
            have HE := Lib.hid (show rdN s = wrap64 (-n) by rw [HD.out, if_neg (by omega), if_neg (by simp; omega)])
            have hn := i64_bd (-n)
            clear h45
            go_wp2_with fail
            refine (rnumber (wrap64 (-n)) hn.1 hn.2 _).mono ?_
            rintro e w1 ⟨rfl, rfl⟩
            go_wp2_with fail
            go_ret2
            exact ⟨by rw [HE.out]; rfl, rfl⟩
        · have HE := Lib.hid (show rdN s = 0 by rw [HD.out, if_pos (by omega)])
          have he : s.data.toList = [] := List.eq_nil_of_length_eq_zero (by rw [Array.length_toList]; show s.size = 0; omega)
          have hn0 : rdW s.data.toList = 0 := by rw [he]; unfold rdW; rfl
          rw [hn0] at *
          clear he hn0 HD
          go_wp2_with fail
          refine (rnumber 0 (by omega) (by omega) _).mono ?_
          rintro e w1 ⟨rfl, rfl⟩
          go_wp2_with fail
          go_ret2
          exact ⟨by rw [HE.out]; rfl, rfl⟩
  · have HE := Lib.hid (show rdN s = 0 by unfold rdN; rw [if_neg (by omega), if_pos (by omega)])
    have h0 : 0 < s.size := by omega
    have hlb : decide ((s.size : Int) ≤ 20) = false := by simp; omega
    go_enter Tryz.func122, Tryz.ntmps122
    go_wp2_with fail
    go_loop [4, 5] (fun n i => i = .int .i64 0 ∧ n = .int .i64 0) (fun _ _ => 0)
    case atStart => exact ⟨rfl, rfl⟩
    case round =>
      obtain ⟨rfl, rfl⟩ := hrel
      by_cases h45 : (s[0].toNat : Int) = 45
      · have hbq : ((s[0].toNat : Int) != 45) = false := by simpa using h45
        clear h45
        go_wp2_with fail
        refine (rnumber 0 (by omega) (by omega) _).mono ?_
        rintro e w1 ⟨rfl, rfl⟩
        go_wp2_with fail
        go_ret2
        exact ⟨by rw [HE.out]; rfl, rfl⟩
      · have hbq : ((s[0].toNat : Int) != 45) = true := by simpa using h45
        clear h45
        go_wp2_with fail
        refine (rnumber 0 (by omega) (by omega) _).mono ?_
        rintro e w1 ⟨rfl, rfl⟩
        go_wp2_with fail
        go_ret2
        exact ⟨by rw [HE.out]; rfl, rfl⟩
end Go.Proofs.YtbbihfafkpniiaaGreatDoor
/- Atoi reads what Itoa writes: plain facts. -/
namespace Go.Proofs.YtbbihfafkpniiaaGreatDoor
def I64 (n : Int) : Prop := -9223372036854775808 ≤ n ∧ n ≤ 9223372036854775807
theorem parse_dig : ∀ (l : List UInt8) (acc : Nat), l.all digB = true → l.foldl (fun v c => 10 * v + (c.toNat - 48)) acc < 18446744073709551616 → Lib.parseUint10 acc l = .ok (l.foldl (fun v c => 10 * v + (c.toNat - 48)) acc)
  | [], acc, _, _ => rfl
  | c :: r, acc, hd, hv => by
    simp only [List.all_cons, Bool.and_eq_true] at hd
    have hc := hd.1
    unfold digB at hc
    simp at hc
    have mono : ∀ (r : List UInt8) (a : Nat), a ≤ r.foldl (fun v c => 10 * v + (c.toNat - 48)) a := by
      intro r
      induction r with
      | nil => intro a; exact Nat.le_refl _
      | cons x r ih => intro a; rw [List.foldl_cons]; exact Nat.le_trans (by omega) (ih _)
    have hm := mono r (10 * acc + (c.toNat - 48))
    rw [List.foldl_cons] at hv ⊢
    unfold Lib.parseUint10
    rw [if_pos hc, if_neg (by omega), if_neg (by omega), show acc * 10 + (c.toNat - 48) = 10 * acc + (c.toNat - 48) by omega]
    exact parse_dig r _ hd.2 hv
theorem atoi_itoa (m : Int) (h : I64 m) : Lib.atoiAll (Lib.itoa m) = .ok m := by
  unfold I64 at h
  unfold Lib.itoa
  split
  · rename_i hneg
    obtain ⟨p1, p2, p3⟩ := dec_props m.natAbs
    have hp : Lib.parseMag (Lib.decDigits m.natAbs) = .ok m.natAbs := by
      unfold Lib.parseMag
      rw [if_neg p3, parse_dig _ 0 p2 (by show valD _ < _; rw [p1]; omega)]
      exact congrArg _ p1
    unfold Lib.atoiAll
    simp only [show ((45 : UInt8).toNat = 45) from rfl, or_true, if_true, hp]
    simp
    rw [if_neg (by omega)]
    congr 1
    omega
  · rename_i hneg
    obtain ⟨p1, p2, p3⟩ := dec_props m.toNat
    obtain ⟨c', r', e, q1, q2⟩ := dec_head m.toNat
    have hp : Lib.parseMag (Lib.decDigits m.toNat) = .ok m.toNat := by
      unfold Lib.parseMag
      rw [if_neg p3, parse_dig _ 0 p2 (by show valD _ < _; rw [p1]; omega)]
      exact congrArg _ p1
    rw [e] at hp ⊢
    unfold Lib.atoiAll
    have n43 : (c'.toNat = 43) = False := by simp; omega
    have n45 : (c'.toNat = 45) = False := by simp; omega
    have hnn : (m.toNat : Int) = m := Int.toNat_of_nonneg (by omega)
    have hlt : ¬ (9223372036854775808 ≤ m.toNat) := by omega
    simp only [n43, n45, or_self, hp, hlt, and_false, false_and, if_false, not_false_eq_true, true_and, hnn]
theorem atoi_num {text : ByteArray} {m : Int} (h : I64 m) (e : numS m = text) : Lib.atoiAll text.data.toList = .ok m := by
  rw [← e, numS_list]; exact atoi_itoa m h
end Go.Proofs.YtbbihfafkpniiaaGreatDoor
/- Reading a test: plain facts. -/
namespace Go.Proofs.YtbbihfafkpniiaaGreatDoor
/-- No test has the text s. -/
def NoTest (s : ByteArray) : Prop := ∀ fd op nu tx ot, I64 nu → anyE fd op nu tx ot = 0 → testS fd op nu tx ot ≠ s
/-- The test that Format writes as s, with 0; or the zero test with 123. -/
def TIs (s : ByteArray) (fd op nu : Int) (tx : ByteArray) (ot er : Int) : Prop :=
  (er = 0 ∧ anyE fd op nu tx ot = 0 ∧ testS fd op nu tx ot = s ∧ I64 nu) ∨ (er = 123 ∧ fd = 0 ∧ op = 0 ∧ nu = 0 ∧ tx = ⟨#[]⟩ ∧ ot = 0 ∧ NoTest s)
theorem TIs.unique {s : ByteArray} {fd op nu fd' op' nu' : Int} {tx tx' : ByteArray} {ot ot' er er' : Int} (h : TIs s fd op nu tx ot er) (k : TIs s fd' op' nu' tx' ot' er') : er = er' ∧ fd = fd' ∧ op = op' ∧ nu = nu' ∧ tx = tx' ∧ ot = ot' := by
  rcases h with ⟨rfl, h1, h2, h3⟩ | ⟨rfl, rfl, rfl, rfl, rfl, rfl, h4⟩
  · rcases k with ⟨rfl, k1, k2, k3⟩ | ⟨rfl, rfl, rfl, rfl, rfl, rfl, k4⟩
    · exact ⟨rfl, test_inj h1 k1 (h2.trans k2.symm)⟩
    · exact absurd h2 (k4 _ _ _ _ _ h3 h1)
  · rcases k with ⟨rfl, k1, k2, k3⟩ | ⟨rfl, rfl, rfl, rfl, rfl, rfl, k4⟩
    · exact absurd k2 (h4 _ _ _ _ _ k3 k1)
    · exact ⟨rfl, rfl, rfl, rfl, rfl, rfl⟩
/-- The operator that the loop over the operators has found so far. -/
def opAt (rest : List UInt8) : Nat → Nat
  | 0 => 0
  | k + 1 => if (opN (k + 1)).data.toList <+: rest ∧ (opN (opAt rest k)).size < (opN (k + 1)).size then k + 1 else opAt rest k
theorem opAt_le (rest : List UInt8) : ∀ k, opAt rest k ≤ k
  | 0 => Nat.le_refl _
  | k + 1 => by
    unfold opAt
    split
    · exact Nat.le_refl _
    · have := opAt_le rest k; omega
theorem opAt_prefix (rest : List UInt8) : ∀ k, (opN (opAt rest k)).data.toList <+: rest
  | 0 => by unfold opAt; exact List.nil_prefix
  | k + 1 => by
    unfold opAt
    split
    · rename_i h; exact h.1
    · exact opAt_prefix rest k
theorem opc_61 {c : UInt8} (h : opc c = false) : c ≠ 61 := by
  intro e; subst e; revert h; decide
theorem opAt_find {c : UInt8} {r : List UInt8} (hc : opc c = false) : ∀ o : Fin 8, opAt ((opN (o.val + 1)).data.toList ++ c :: r) 8 = o.val + 1 := by
  have h := opc_61 hc
  have h' : (61 : UInt8) ≠ c := fun e => h e.symm
  have l1 : opN 1 = ⟨#[61]⟩ := rfl
  have l2 : opN 2 = ⟨#[33, 61]⟩ := rfl
  have l3 : opN 3 = ⟨#[60]⟩ := rfl
  have l4 : opN 4 = ⟨#[60, 61]⟩ := rfl
  have l5 : opN 5 = ⟨#[62]⟩ := rfl
  have l6 : opN 6 = ⟨#[62, 61]⟩ := rfl
  have l7 : opN 7 = ⟨#[38]⟩ := rfl
  have l8 : opN 8 = ⟨#[38, 61]⟩ := rfl
  have l0 : opN 0 = ⟨#[]⟩ := rfl
  have z0 : (⟨#[]⟩ : ByteArray).size = 0 := rfl
  have z1 : ∀ a : UInt8, (⟨#[a]⟩ : ByteArray).size = 1 := fun _ => rfl
  have z2 : ∀ a b : UInt8, (⟨#[a, b]⟩ : ByteArray).size = 2 := fun _ _ => rfl
  intro o
  match o with
  | ⟨0, _⟩ => simp [opAt, l0, l1, l2, l3, l4, l5, l6, l7, l8, z0, z1, z2, h, h', List.cons_prefix_cons]
  | ⟨1, _⟩ => simp [opAt, l0, l1, l2, l3, l4, l5, l6, l7, l8, z0, z1, z2, h, h', List.cons_prefix_cons]
  | ⟨2, _⟩ => simp [opAt, l0, l1, l2, l3, l4, l5, l6, l7, l8, z0, z1, z2, h, h', List.cons_prefix_cons]
  | ⟨3, _⟩ => simp [opAt, l0, l1, l2, l3, l4, l5, l6, l7, l8, z0, z1, z2, h, h', List.cons_prefix_cons]
  | ⟨4, _⟩ => simp [opAt, l0, l1, l2, l3, l4, l5, l6, l7, l8, z0, z1, z2, h, h', List.cons_prefix_cons]
  | ⟨5, _⟩ => simp [opAt, l0, l1, l2, l3, l4, l5, l6, l7, l8, z0, z1, z2, h, h', List.cons_prefix_cons]
  | ⟨6, _⟩ => simp [opAt, l0, l1, l2, l3, l4, l5, l6, l7, l8, z0, z1, z2, h, h', List.cons_prefix_cons]
  | ⟨7, _⟩ => simp [opAt, l0, l1, l2, l3, l4, l5, l6, l7, l8, z0, z1, z2, h, h', List.cons_prefix_cons]
theorem numF_spec {s : ByteArray} (h : numF s ≠ 0) : (1 ≤ numF s ∧ numF s ≤ 22) ∧ fieldN (numF s).toNat = s := by
  by_cases hx : ∃ k, k < 22 ∧ fieldN (k + 1) = s
  · obtain ⟨k, hk, rfl⟩ := hx
    have H : ∀ k : Fin 22, numF (fieldN (k.val + 1)) = (k.val : Int) + 1 := by decide +kernel
    have e := H ⟨k, hk⟩
    simp only at e
    rw [e]
    refine ⟨by omega, ?_⟩
    have : ((k : Int) + 1).toNat = k + 1 := by omega
    rw [this]
  · exact absurd (numF_none fun j hj e => hx ⟨j, hj, e⟩) h
theorem numF_field {f : Int} (h : 1 ≤ f ∧ f ≤ 22) : numF (fieldN f.toNat) = f := by
  have H : ∀ k : Fin 22, numF (fieldN (k.val + 1)) = (k.val : Int) + 1 := by decide +kernel
  have := H ⟨f.toNat - 1, by omega⟩
  have e : f.toNat - 1 + 1 = f.toNat := by omega
  simp only [e] at this
  rw [this]; omega
theorem field_notx : ∀ k : Fin 22, (fieldN (k.val + 1)).data.toList.head?.map (fun c => decide (c.toNat ≠ 120)) = some true := by decide +kernel
theorem numF_other {s : ByteArray} {c : UInt8} {r : List UInt8} (e : s.data.toList = c :: r) (h : c.toNat < 97 ∨ c.toNat = 120) : numF s = 0 := by
  refine numF_none fun j hj he => ?_
  have h1 := field_head ⟨j, hj⟩
  have h2 := field_notx ⟨j, hj⟩
  simp only [he, e] at h1 h2
  simp at h1 h2
  omega
/-- The value of a test as it is read of the text V. -/
def ReadV (fd : Int) (V : ByteArray) (nu : Int) (tx : ByteArray) (ot : Int) : Prop :=
  (textB fd = true ∧ unqE V = 0 ∧ tx = unqS V ∧ nu = 0 ∧ ot = 0) ∨ (textB fd = false ∧ numF V ≠ 0 ∧ ot = numF V ∧ nu = 0 ∧ tx = ⟨#[]⟩) ∨ (textB fd = false ∧ numF V = 0 ∧ ot = 0 ∧ tx = ⟨#[]⟩ ∧ I64 nu ∧ numS nu = V)
theorem unq_textF {V : ByteArray} (h : unqE V = 0) : quoteS (unqS V) = V := by
  cases hu : unqO V.data.toList with
  | none => unfold unqE at h; rw [hu] at h; cases h
  | some t =>
    obtain ⟨h1, h2⟩ := of_unqO hu
    rw [unqS_some hu]
    have hz : (⟨t.toArray⟩ : ByteArray).size ≤ 640 := by show t.toArray.size ≤ 640; simpa using h2
    refine bytes_ext ?_
    rw [quoteS_list _ hz]
    simpa using h1
theorem ReadV.val {fd : Int} {V : ByteArray} {nu : Int} {tx : ByteArray} {ot : Int} (h : ReadV fd V nu tx ot) : valS fd nu tx ot = V := by
  unfold valS
  rcases h with ⟨h1, h2, rfl, rfl, rfl⟩ | ⟨h1, h2, rfl, rfl, rfl⟩ | ⟨h1, h2, rfl, rfl, h5, h6⟩
  · rw [if_neg (by simp), if_pos h1]; exact unq_textF h2
  · rw [if_pos h2]; exact (numF_spec h2).2
  · rw [if_neg (by simp), if_neg (by rw [h1]; decide)]; exact h6
theorem ReadV.unique {fd : Int} {V : ByteArray} {nu nu' : Int} {tx tx' : ByteArray} {ot ot' : Int} (h : ReadV fd V nu tx ot) (k : ReadV fd V nu' tx' ot') : nu = nu' ∧ tx = tx' ∧ ot = ot' := by
  rcases h with ⟨h1, h2, rfl, rfl, rfl⟩ | ⟨h1, h2, rfl, rfl, rfl⟩ | ⟨h1, h2, rfl, rfl, h5, h6⟩ <;>
  rcases k with ⟨k1, k2, rfl, rfl, rfl⟩ | ⟨k1, k2, rfl, rfl, rfl⟩ | ⟨k1, k2, rfl, rfl, k5, k6⟩
  · exact ⟨rfl, rfl, rfl⟩
  · rw [h1] at k1; cases k1
  · rw [h1] at k1; cases k1
  · rw [h1] at k1; cases k1
  · exact ⟨rfl, rfl, rfl⟩
  · exact absurd k2 h2
  · rw [h1] at k1; cases k1
  · exact absurd h2 k2
  · exact ⟨numS_injF (h6.trans k6.symm), rfl, rfl⟩
theorem unq_quoteF {t : ByteArray} (h : t.size ≤ 640) : unqS (quoteS t) = t ∧ unqE (quoteS t) = 0 := by
  have := unq_yes (s := quoteS t) (t := t) ⟨by unfold quoteE; rw [if_neg (by omega)], rfl⟩
  exact ⟨unqS_some this, unqE_some this⟩
theorem ReadV.complete {fd op nu : Int} {tx : ByteArray} {ot l : Int} (h : checkF fd op nu tx ot l = 0) (hi : I64 nu) : ReadV fd (valS fd nu tx ot) nu tx ot := by
  obtain ⟨h1, h2, h3, h4, h5, h6, h7⟩ := checkF_zero h
  have empty : ∀ {s : ByteArray}, s.size = 0 → s = ⟨#[]⟩ := fun {s} hs => bytes_ext (by
    have : s.data.toList.length = 0 := by rw [Array.length_toList]; exact hs
    rw [List.eq_nil_of_length_eq_zero this])
  by_cases hot : ot = 0
  · cases ht : textB fd
    · have z : tx = ⟨#[]⟩ := empty (by rcases h7 with h | h; rw [ht] at h; cases h; exact h)
      have e : valS fd nu tx ot = numS nu := by unfold valS; rw [if_neg (by simpa using hot), if_neg (by rw [ht]; decide)]
      rw [e]
      obtain ⟨c, r, e3, d1⟩ := itoa_head nu
      have e4 : (numS nu).data.toList = c :: r := by unfold numS; simpa using e3
      exact .inr (.inr ⟨ht, numF_other e4 (by omega), hot, z, hi, rfl⟩)
    · have s1 : nu = 0 ∧ tx.size ≠ 0 ∧ tx.size ≤ 640 := by rcases h6 with h | h; rw [ht] at h; cases h; exact h
      have e : valS fd nu tx ot = quoteS tx := by unfold valS; rw [if_neg (by simpa using hot), if_pos ht]
      rw [e]
      obtain ⟨u1, u2⟩ := unq_quoteF s1.2.2
      exact .inl ⟨ht, u2, u1.symm, s1.1, hot⟩
  · have hx := h2.resolve_left hot
    have ht := owner_text hx.2.1
    have e : valS fd nu tx ot = fieldN ot.toNat := by unfold valS; rw [if_pos hot]
    have hn := numF_field (allow_range hx.1)
    have hy := h5.resolve_left hot
    rw [e]
    exact .inr (.inl ⟨ht, by rw [hn]; exact hot, hn.symm, hy.1, empty hy.2⟩)
/-- The pieces of a text: what stands ahead of the first byte of an operator, and the rest. -/
structure Pieces (s N V : ByteArray) (o : Nat) : Prop where
  eq : ∃ rest : List UInt8, s.data.toList = N.data.toList ++ rest ∧ (∃ c r, rest = c :: r ∧ opc c = true) ∧ o = opAt rest 8 ∧ rest = (opN o).data.toList ++ V.data.toList
  no : N.data.toList.all (fun c => !opc c) = true
theorem span_unique {p : UInt8 → Bool} : ∀ {A A' B B' : List UInt8}, A.all (fun c => !p c) = true → A'.all (fun c => !p c) = true → (∃ c r, B = c :: r ∧ p c = true) → (∃ c r, B' = c :: r ∧ p c = true) → A ++ B = A' ++ B' → A = A' ∧ B = B'
  | [], [], _, _, _, _, _, _, e => by simpa using e
  | [], a :: A', _, _, _, hA', ⟨c, r, hB, hc⟩, _, e => by
    subst hB
    simp at e hA'
    rw [e.1] at hc; rw [hc] at hA'; simp at hA'
  | a :: A, [], _, _, hA, _, _, ⟨c, r, hB, hc⟩, e => by
    subst hB
    simp at e hA
    rw [← e.1] at hc; rw [hc] at hA; simp at hA
  | a :: A, b :: A', B, B', hA, hA', hB, hB', e => by
    simp only [List.cons_append, List.cons.injEq] at e
    simp only [List.all_cons, Bool.and_eq_true] at hA hA'
    obtain ⟨h1, h2⟩ := span_unique hA.2 hA'.2 hB hB' e.2
    exact ⟨by rw [e.1, h1], h2⟩
/-- A test's text in its pieces. -/
theorem Pieces.of_test {s N V : ByteArray} {o : Nat} (h : Pieces s N V o) {fd op nu : Int} {tx : ByteArray} {ot : Int} (h0 : anyE fd op nu tx ot = 0) (e : testS fd op nu tx ot = s) : N = fieldN fd.toNat ∧ (o : Int) = op ∧ V = valS fd nu tx ot := by
  obtain ⟨l, hl⟩ := anyE_zero h0
  obtain ⟨h1, h2, h3, h4, h5, h6, h7⟩ := checkF_zero hl
  have r1 := allow_range h1
  obtain ⟨c, r, ev, hc⟩ := valS_head hl
  obtain ⟨rest, e1, e2, e3, e4⟩ := h.eq
  unfold testS at e
  rw [if_pos h0] at e
  have e5 := congrArg (fun s : ByteArray => s.data.toList) e
  simp only [ByteArray.data_append, Array.toList_append, List.append_assoc] at e5
  rw [e1] at e5
  have hop : ∃ c r, (opN op.toNat).data.toList ++ (valS fd nu tx ot).data.toList = c :: r ∧ opc c = true := by
    have hne := op_ne ⟨op.toNat - 1, by omega⟩
    have hall := op_all ⟨op.toNat, by omega⟩
    have e : op.toNat - 1 + 1 = op.toNat := by omega
    simp only [e] at hne
    simp only at hall
    cases hl : (opN op.toNat).data.toList with
    | nil => exact absurd hl hne
    | cons c r =>
      rw [hl] at hall
      simp at hall
      exact ⟨c, _, rfl, hall.1⟩
  obtain ⟨a1, a2⟩ := span_unique (p := opc) (field_noop ⟨fd.toNat, by omega⟩) h.no hop e2 e5
  have ho : o = op.toNat := by
    rw [e3, ← a2, ev]
    have H := opAt_find (r := r) hc ⟨op.toNat - 1, by omega⟩
    have e : op.toNat - 1 + 1 = op.toNat := by omega
    simpa only [e] using H
  refine ⟨bytes_ext a1.symm, by omega, ?_⟩
  rw [e4, ho] at a2
  exact (bytes_ext (List.append_cancel_left a2)).symm
/-- What is read and permitted has the text s. -/
theorem Pieces.sound {s N V : ByteArray} {o : Nat} (h : Pieces s N V o) {nu : Int} {tx : ByteArray} {ot : Int} (hv : ReadV (numF N) V nu tx ot) (h0 : anyE (numF N) (o : Int) nu tx ot = 0) : testS (numF N) o nu tx ot = s := by
  obtain ⟨l, hl⟩ := anyE_zero h0
  obtain ⟨h1, _⟩ := checkF_zero hl
  have r1 := allow_range h1
  obtain ⟨rest, e1, e2, e3, e4⟩ := h.eq
  unfold testS
  rw [if_pos h0, hv.val, (numF_spec (by omega)).2]
  refine bytes_ext ?_
  simp only [ByteArray.data_append, Array.toList_append, List.append_assoc, Int.toNat_natCast]
  rw [e1, e4]
theorem Pieces.bad {s N V : ByteArray} {o : Nat} (h : Pieces s N V o) (hb : ∀ nu tx ot, ReadV (numF N) V nu tx ot → anyE (numF N) (o : Int) nu tx ot ≠ 0) : NoTest s := by
  intro fd op nu tx ot hi h0 e
  obtain ⟨rfl, rfl, rfl⟩ := h.of_test h0 e
  obtain ⟨l, hl⟩ := anyE_zero h0
  obtain ⟨h1, _⟩ := checkF_zero hl
  have hn := numF_field (allow_range h1)
  rw [hn] at hb
  exact hb nu tx ot (ReadV.complete hl hi) h0
theorem no_pieces {s : ByteArray} (h : s.data.toList.all (fun c => !opc c) = true) : NoTest s := by
  intro fd op nu tx ot _ h0 e
  obtain ⟨l, hl⟩ := anyE_zero h0
  obtain ⟨h1, h2, h3, _⟩ := checkF_zero hl
  unfold testS at e
  rw [if_pos h0] at e
  have hne := op_ne ⟨op.toNat - 1, by omega⟩
  have hall := op_all ⟨op.toNat, by omega⟩
  have e' : op.toNat - 1 + 1 = op.toNat := by omega
  simp only [e'] at hne
  simp only at hall
  cases hl : (opN op.toNat).data.toList with
  | nil => exact absurd hl hne
  | cons c r =>
    rw [hl] at hall
    simp only [List.all_cons, Bool.and_eq_true] at hall
    have hm : c ∈ s.data.toList := by
      rw [← e]
      simp only [ByteArray.data_append, Array.toList_append, hl]
      simp
    have := List.all_eq_true.1 h c hm
    rw [hall.1] at this
    cases this
end Go.Proofs.YtbbihfafkpniiaaGreatDoor

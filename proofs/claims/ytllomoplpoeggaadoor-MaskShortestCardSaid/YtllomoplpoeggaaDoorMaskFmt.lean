/- Format of package mask returns maskS. -/
import Derived.Test.YtllomoplpoeggaaDoorMaskPlain
import Derived.OwnWalk
namespace Go.Proofs.YtllomoplpoeggaaDoor
open Go.RowKit
theorem Tryd.info9 : (Tryd.prog.info? 9).map (fun i => (i.zero, i.size, i.bytes)) = some (some (.string ⟨#[]⟩), 1, 16) := by kernel_rfl
theorem and_low (m : Nat) (hm : m < 18446744073709551616) : bits .and .u64 (m : Int) 4294967295 = ((m % 4294967296 : Nat) : Int) := by
  rw [show (4294967295 : Int) = ((4294967295 : Nat) : Int) from rfl, u64_and_nat m 4294967295 hm (by omega)]
  rw [show (4294967295 : Nat) = 2 ^ 32 - 1 from rfl, Nat.and_two_pow_sub_one_eq_mod]
theorem has_mod (m : Nat) (h : m % 4294967296 ≠ 0) : memF m 0 ≠ [] := by
  intro he
  apply h
  apply Nat.eq_of_testBit_eq
  intro i
  rw [Nat.zero_testBit, show (4294967296 : Nat) = 2 ^ 32 from rfl, Nat.testBit_mod_two_pow]
  by_cases hi : i < 32
  · have : i ∉ memF m 0 := by rw [he]; simp
    unfold memF at this
    rw [List.mem_filter] at this
    unfold hasN at this
    simp [hi] at this
    simp [this]
  · simp [hi]
theorem grp_ne {l : List Nat} (h : l ≠ []) : grp l ≠ [] := by
  cases l with
  | nil => exact absurd rfl h
  | cons a l =>
    unfold grp
    split
    · simp
    · split <;> simp
theorem vitoa_small (i : Nat) (hi : i < 100) (w : World) : Calls Tryd.prog 29 #[.int .i64 (i : Int)] w fun e w' => e = .returned (.string (decS i)) ∧ w = w' :=
  (Tryd.strconv_Itoa_small i hi w).mono fun _ _ h => ⟨h.1, h.2.symm⟩
theorem one_run {m k : Nat} (h : hasN m k = true) : ∀ i, k ≤ i → i ≤ k → hasN m i = true := fun i h1 h2 => by
  obtain rfl : i = k := by omega
  exact h
/-- The runs that have been written, and those to come. -/
def RunsLeft (m k : Nat) (R : List (Nat × Nat)) : Prop := R ++ grp (memF m k) = grp (memF m 0)
theorem runs_next {m k l : Nat} {R : List (Nat × Nat)} (h : RunsLeft m k R) (hg : grp (memF m k) = (k, l) :: grp (memF m (l + 1))) : RunsLeft m (l + 1) (R ++ [(k, l)]) := by
  unfold RunsLeft at *
  rw [← h, hg]; simp
theorem grp_small : ∀ {l : List Nat}, (∀ x ∈ l, x < 32) → ∀ p ∈ grp l, p.1 < 32 ∧ p.2 < 32
  | [], _, p, hp => by cases hp
  | a :: l, h, p, hp => by
    have ih := grp_small (l := l) (fun x hx => h x (List.mem_cons_of_mem _ hx))
    have ha := h a List.mem_cons_self
    unfold grp at hp
    split at hp
    · simp at hp; subst hp; exact ⟨ha, ha⟩
    · rename_i b c r hg
      have hbc := ih (b, c) (by rw [hg]; exact List.mem_cons_self)
      split at hp
      · rcases List.mem_cons.1 hp with rfl | hp
        · exact ⟨ha, hbc.2⟩
        · exact ih p (by rw [hg]; exact List.mem_cons_of_mem _ hp)
      · rcases List.mem_cons.1 hp with rfl | hp
        · exact ⟨ha, ha⟩
        · exact ih p (by rw [hg]; exact hp)
theorem rtext_len (p : Nat × Nat) (h : p.1 < 32 ∧ p.2 < 32) : (rtext p).length ≤ 5 := by
  have h1 := dec_len2 p.1 (by omega)
  have h2 := dec_len2 p.2 (by omega)
  unfold rtext; split
  · simp; omega
  · omega
theorem join_len : ∀ (xs : List (List UInt8)), (∀ x ∈ xs, x.length ≤ 5) → (Lib.join xs [44]).length ≤ 6 * xs.length
  | [], _ => by simp [Lib.join_nil]
  | [x], h => by rw [Lib.join_one]; have := h x List.mem_cons_self; simp; omega
  | x :: y :: r, h => by
    have ih := join_len (y :: r) (fun z hz => h z (List.mem_cons_of_mem _ hz))
    have hx := h x List.mem_cons_self
    have e : Lib.join (x :: y :: r) [44] = x ++ [44] ++ Lib.join (y :: r) [44] := by simp [Lib.join, List.intercalate]
    rw [e]; simp at ih ⊢; omega
theorem vjoin (g cap : Nat) (R : List (Nat × Nat)) (w : World) {base : Nat} (hown : w.ownsRow base 9 1 (.slice (some ⟨g, 0, none⟩) R.length cap) R.length (R.map fun p => .string (rtextS p))) (_hb : base ≤ w.heap.size) (hR : R.length ≤ 32) (hs : ∀ p ∈ R, p.1 < 32 ∧ p.2 < 32) :
    Calls Tryd.prog 30 #[.slice (some ⟨g, 0, none⟩) R.length cap, .string ⟨#[44]⟩] w fun e w' => e = .returned (.string ⟨(Lib.join (R.map rtext) [44]).toArray⟩) ∧ Below w.heap.size w w' := by
  have hcap : R.length ≤ cap := by
    rcases hown.2 with ⟨h, _⟩ | ⟨g', cap', cur, h, _, _, hnc, _⟩
    · simp at h
    · injection h with _ _ h; omega
  have hg := (hown.lt g rfl).2
  have hj := Tryd.strings_Join g 0 cap (R.map rtextS) ⟨#[44]⟩ w (fun j x hx => by
      rw [Nat.zero_add]
      have hj : j < R.length := by have := (List.getElem?_eq_some_iff.1 hx).1; simpa using this
      rw [hown.cellAt j (by omega), List.getElem?_map]
      rw [List.getElem?_map] at hx
      cases hr : R[j]? with
      | none => rw [hr] at hx; cases hx
      | some p => rw [hr] at hx; injection hx with hx; subst hx; rfl) hg (by simp; omega) (by simpa using hcap) (by
      have e : ((R.map rtextS).map (·.data.toList)) = R.map rtext := by rw [List.map_map]; rfl
      rw [e]
      have := join_len (R.map rtext) (fun x hx => by obtain ⟨p, hp, rfl⟩ := List.mem_map.1 hx; exact rtext_len p (hs p hp))
      rw [List.length_map] at this
      show (Lib.join (R.map rtext) [44]).length ≤ _
      omega)
  have e : ((R.map rtextS).map (·.data.toList)) = R.map rtext := by rw [List.map_map]; rfl
  rw [List.length_map, e] at hj
  exact hj
attribute [local irreducible] decS rtextS
set_option maxRecDepth 100000 in
set_option maxHeartbeats 2000000 in
theorem vmfmt_mid (m : Nat) (w : World) (hm : m < 18446744073709551616) (h0 : m % 4294967296 ≠ 0) (h1 : m % 4294967296 ≠ 4294967295) :
    Calls Tryd.prog 20 #[.int .u64 (m : Int)] w fun e w' => e = .returned (.string (maskS m)) ∧ Below w.heap.size w w' := by
  obtain ⟨j0, hj, hz0, hz1, hz2⟩ := info_parts Tryd.info9
  have HA := Lib.hid (and_low m hm)
  have ha : bits .and .u64 (m : Int) 4294967295 = ((m % 4294967296 : Nat) : Int) := HA.out
  obtain ⟨q, hq⟩ : ∃ q : Nat, q = m % 4294967296 := ⟨_, rfl⟩
  rw [← hq] at ha h0 h1
  have b1 : ((q : Int) == 4294967295) = false := by simp; omega
  have b2 : ((q : Int) == 0) = false := by simp; omega
  have HQ := Lib.hid hq
  have HM := Lib.hid hm
  clear hq hm h0 h1
  go_enter Tryd.func20, Tryd.ntmps20
  go_wp2_with fail
  go_loopw [3, 4] (fun v i wr => ∃ (k : Nat) (R : List (Nat × Nat)), k ≤ 32 ∧ i = .int .i64 (k : Int) ∧ R.length ≤ k ∧ wr.ownsRow w.heap.size 9 1 v R.length (R.map fun p => .string (rtextS p)) ∧ Below w.heap.size w wr ∧ Hid (RunsLeft m k R)) (fun _ i _ => 32 - (intOf i).toNat)
  case atStart => exact ⟨0, [], by omega, rfl, by simp, World.ownsRow_nil _ _ _ _, Below.refl _ _, by exact rfl⟩
  case round =>
    obtain ⟨k, R, hk, rfl, hR, hown, hb, hleft⟩ := hrel
    by_cases hlt : k < 32
    · go_wp2_with fail
      refine (vhas m _ _ HM.out).mono ?_
      rintro e w' ⟨rfl, rfl⟩
      rw [hasB_nat]
      cases hh : hasN m k
      · have HL := Lib.hid (show RunsLeft m (k + 1) R by have := hleft.out; unfold RunsLeft at *; rw [← memF_no m k hh]; exact this)
        clear hh
        go_wp2_with fail
        go_roundw
        case rel => exact ⟨k + 1, R, by omega, by go_num, by omega, hown, hb, HL⟩
        case measure => simp [intOf]; omega
      · have HH := Lib.hid hh
        clear hh
        go_wp2_with fail
        obtain ⟨wo, rfl⟩ : ∃ wo : World, wo = wr := ⟨_, rfl⟩
        go_loop [5] (fun x => ∃ l : Nat, k ≤ l ∧ l < 32 ∧ x = .int .i64 (l : Int) ∧ Hid (∀ i, k ≤ i → i ≤ l → hasN m i = true)) (fun x => 32 - (intOf x).toNat)
        case atStart => exact ⟨k, by omega, hlt, rfl, one_run HH.out⟩
        case round =>
          obtain ⟨l, hkl, hl32, rfl, hall⟩ := hrel
          go_wp2_with fail
          refine (vhas m _ _ HM.out).mono ?_
          rintro e w' ⟨rfl, rfl⟩
          rw [show ((l : Int) + 1) = ((l + 1 : Nat) : Int) by omega, hasB_nat]
          cases hn : hasN m (l + 1)
          · have HG := Lib.hid (grp_run m (l - k) k l (by omega) hall.out hn)
            clear hn
            have hz1' := decS_size2 k (by omega)
            have hz2' := decS_size2 l (by omega)
            have hownS := Lib.hid hown
            by_cases hkl2 : k < l
            · have hT := Lib.hid (rtextS_two k l hkl2)
              go_wp2_with fail
              refine (vitoa_small k (by omega) _).mono ?_
              rintro e w' ⟨rfl, rfl⟩
              go_wp2_with fail
              refine (vitoa_small l (by omega) _).mono ?_
              rintro e w' ⟨rfl, rfl⟩
              go_wp2_with (at_builtin; refine wpList_append_own _ rfl _ _ 43 rfl w.heap.size 9 j0 _ 1 16 Tryd.underlying43 hj hz0 hz1 hz2 rfl (by omega) _ _ _ rfl (hown.alloc _) ⟨wo.heap.size, 0, none⟩ 1 1 [.string (decS k ++ (⟨#[45]⟩ ++ decS l))] rfl rfl (cell_one_new _ _ _) (by simp [Value.oneCell']) (by unfold maxLen; omega) (by omega) (by have := hb.size; simp; omega) ?_; intro v2 w2 hown2 hg2 _)
              have hb2 : Below w.heap.size w w2 := below_grown_own (hb.alloc hb.size _) hown (Nat.le_refl _) hg2 (by have := hb.size; simp; omega)
              clear hg2
              go_roundw
              case rel => exact ⟨l + 1, R ++ [(k, l)], by omega, by go_num, by simp; omega, by simpa [hT.out] using hown2, hb2, runs_next hleft.out HG.out⟩
              case measure => simp [intOf]; omega
            · obtain rfl : l = k := by omega
              go_wp2_with fail
              refine (vitoa_small l (by omega) _).mono ?_
              rintro e w' ⟨rfl, rfl⟩
              go_wp2_with (at_builtin; refine wpList_append_own _ rfl _ _ 43 rfl w.heap.size 9 j0 _ 1 16 Tryd.underlying43 hj hz0 hz1 hz2 rfl (by omega) _ _ _ rfl (hown.alloc _) ⟨wo.heap.size, 0, none⟩ 1 1 [.string (decS l)] rfl rfl (cell_one_new _ _ _) (by simp [Value.oneCell']) (by unfold maxLen; omega) (by omega) (by have := hb.size; simp; omega) ?_; intro v2 w2 hown2 hg2 _)
              have hb2 : Below w.heap.size w w2 := below_grown_own (hb.alloc hb.size _) hown (Nat.le_refl _) hg2 (by have := hb.size; simp; omega)
              clear hg2
              go_roundw
              case rel => exact ⟨l + 1, R ++ [(l, l)], by omega, by go_num, by simp; omega, by simpa [rtextS_one] using hown2, hb2, runs_next hleft.out HG.out⟩
              case measure => simp [intOf]; omega
          · have HX := Lib.hid hn
            have hl' := hasN_lt hn
            clear hn
            go_wp2_with fail
            go_round
            case rel => exact ⟨l + 1, by omega, by omega, by go_num, fun i h1 h2 => by
              by_cases hi : i = l + 1
              · subst hi; exact HX.out
              · exact hall.out i h1 (by omega)⟩
            case measure => simp [intOf]; omega
    · obtain rfl : k = 32 := by omega
      have hRg : R = grp (memF m 0) := by have := hleft.out; unfold RunsLeft at this; rw [memF_end m 32 (by omega)] at this; simpa [grp] using this
      have hR0 : 0 < R.length := List.length_pos_iff.2 (by rw [hRg]; exact grp_ne (has_mod m (by have := HQ.out; have := b2; simp at this; omega)))
      obtain ⟨g, cap, hv⟩ := Joins.ownsRow_form hown hR0
      subst hv
      have hj0 := Lib.hid (vjoin g cap R wr hown hb.size (by omega) (fun p hp => by rw [hRg] at hp; exact grp_small (fun x hx => (memF_ge m 0 x hx).2) p hp))
      have HR := Lib.hid (show (⟨(Lib.join (R.map rtext) [44]).toArray⟩ : ByteArray) = maskS m by
        have e1 := HQ.out
        unfold maskS
        rw [if_neg (by rw [← e1]; have := b1; simp at this; omega), if_neg (by rw [← e1]; have := b2; simp at this; omega), hRg])
      clear hown hleft hRg
      go_wp2_with fail
      refine hj0.out.mono ?_
      rintro e w' ⟨rfl, hb'⟩
      rw [HR.out]
      go_wp2_with fail
      go_ret
      exact ⟨rfl, hb.trans (hb'.mono hb.size)⟩
set_option maxHeartbeats 400000 in
theorem vmfmt (m : Nat) (w : World) (hm : m < 18446744073709551616) :
    Calls Tryd.prog 20 #[.int .u64 (m : Int)] w fun e w' => e = .returned (.string (maskS m)) ∧ Below w.heap.size w w' := by
  by_cases h0 : m % 4294967296 = 0
  · have H := Lib.hid (show maskS m = ⟨#[110, 111, 110, 101]⟩ by unfold maskS; rw [if_neg (by omega), if_pos h0])
    have ha := and_low m hm
    rw [h0] at ha
    clear h0 hm
    go_enter Tryd.func20, Tryd.ntmps20
    go_wp2
    go_ret
    exact ⟨retS H.out.symm, Below.refl _ _⟩
  · by_cases h1 : m % 4294967296 = 4294967295
    · have H := Lib.hid (show maskS m = ⟨#[97, 108, 108]⟩ by unfold maskS; rw [if_pos h1])
      have ha := and_low m hm
      rw [h1] at ha
      clear h0 h1 hm
      go_enter Tryd.func20, Tryd.ntmps20
      go_wp2
      go_ret
      exact ⟨retS H.out.symm, Below.refl _ _⟩
    · exact vmfmt_mid m w hm h0 h1
end Go.Proofs.YtllomoplpoeggaaDoor

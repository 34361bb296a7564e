/- Check, of the program and of the reference, returns checkE. -/
import Derived.Test.YthidojkckhjciaaDoorName
import Derived.Test.YthidojkckhjciaaDoorOwn
namespace Go.Proofs.YthidojkckhjciaaDoor
open Go.RowKit
/-- A pair as a value. -/
abbrev pairV (nm : ByteArray) (kd nu : Int) (tx : ByteArray) : Value := .agg #[.string nm, .int .i64 kd, .int .i64 nu, .string tx]
def checkE (nm : ByteArray) (kd nu : Int) (tx : ByteArray) : Int :=
  if nameB nm.data.toList = false then 22 else if kd < 1 ∨ 3 < kd ∨ (kd ≠ 1 ∧ nu ≠ 0) ∨ (kd ≠ 2 ∧ tx.size ≠ 0) then 23 else if 640 < tx.size then 20 else 0
theorem checkE_name {nm : ByteArray} {kd nu : Int} {tx : ByteArray} (h : nameB nm.data.toList = false) : checkE nm kd nu tx = 22 := if_pos h
theorem checkE_kind {nm : ByteArray} {kd nu : Int} {tx : ByteArray} (h : nameB nm.data.toList = true) (k : kd < 1 ∨ 3 < kd ∨ (kd ≠ 1 ∧ nu ≠ 0) ∨ (kd ≠ 2 ∧ tx.size ≠ 0)) : checkE nm kd nu tx = 23 := by
  unfold checkE; rw [if_neg (by rw [h]; simp), if_pos k]
theorem checkE_long {nm : ByteArray} {kd nu : Int} {tx : ByteArray} (h : nameB nm.data.toList = true) (k : ¬ (kd < 1 ∨ 3 < kd ∨ (kd ≠ 1 ∧ nu ≠ 0) ∨ (kd ≠ 2 ∧ tx.size ≠ 0))) (l : 640 < tx.size) : checkE nm kd nu tx = 20 := by
  unfold checkE; rw [if_neg (by rw [h]; simp), if_neg k, if_pos l]
theorem checkE_ok {nm : ByteArray} {kd nu : Int} {tx : ByteArray} (h : nameB nm.data.toList = true) (k : ¬ (kd < 1 ∨ 3 < kd ∨ (kd ≠ 1 ∧ nu ≠ 0) ∨ (kd ≠ 2 ∧ tx.size ≠ 0))) (l : ¬ 640 < tx.size) : checkE nm kd nu tx = 0 := by
  unfold checkE; rw [if_neg (by rw [h]; simp), if_neg k, if_neg l]

set_option maxHeartbeats 4000000 in
theorem vcheck (nm : ByteArray) (kd nu : Int) (tx : ByteArray) (w : World) (hm : nm.size ≤ maxLen) (ht : tx.size ≤ maxLen) :
    Calls Tryd.prog 18 #[pairV nm kd nu tx] w fun e w' => e = .returned (.int .i64 (checkE nm kd nu tx)) ∧ Below w.heap.size w w' := by
  unfold maxLen at ht
  cases hn : nameB nm.data.toList
  · have HN := Lib.hid hn
    have H := Lib.hid (checkE_name (kd := kd) (nu := nu) (tx := tx) hn)
    clear hn
    go_enter Tryd.func18, Tryd.ntmps18
    go_wp2_with (go_at_call 31; refine (vproper _ _ hm).mono ?_; rintro e w' ⟨rfl, rfl⟩; rw [HN.out])
    go_ret
    exact ⟨retI H.out.symm, (Below.refl _ _).alloc (Nat.le_refl _) _⟩
  · have HN := Lib.hid hn
    have hcs : kd < 1 ∨ 3 < kd ∨ kd = 1 ∨ kd = 2 ∨ kd = 3 := by omega
    rcases hcs with hk | hk | rfl | rfl | rfl
    · have H := Lib.hid (checkE_kind (nu := nu) (tx := tx) hn (.inl hk))
      have k1 : (kd != 1) = true := by simp; omega
      have k2 : (kd != 2) = true := by simp; omega
      have k3 : (kd != 3) = true := by simp; omega
      clear hn
      go_enter Tryd.func18, Tryd.ntmps18
      go_wp2_with (go_at_call 31; refine (vproper _ _ hm).mono ?_; rintro e w' ⟨rfl, rfl⟩; rw [HN.out])
      go_ret
      exact ⟨retI H.out.symm, (Below.refl _ _).alloc (Nat.le_refl _) _⟩
    · have H := Lib.hid (checkE_kind (nu := nu) (tx := tx) hn (.inr (.inl hk)))
      have k1 : (kd != 1) = true := by simp; omega
      have k2 : (kd != 2) = true := by simp; omega
      have k3 : (kd != 3) = true := by simp; omega
      clear hn
      go_enter Tryd.func18, Tryd.ntmps18
      go_wp2_with (go_at_call 31; refine (vproper _ _ hm).mono ?_; rintro e w' ⟨rfl, rfl⟩; rw [HN.out])
      go_ret
      exact ⟨retI H.out.symm, (Below.refl _ _).alloc (Nat.le_refl _) _⟩
    · by_cases hx : tx.size = 0
      · have H := Lib.hid (checkE_ok (kd := 1) (nu := nu) hn (by omega) (show ¬ 640 < tx.size by omega))
        have e0 : tx.toList.isEmpty = true := by simpa using str_empty hx
        have e1 : tx.toList = [] := str_empty hx
        have l1 : decide (640 < (tx.size : Int)) = false := by simp; omega
        cases hnz : (nu != 0)
        all_goals
          clear hn hx
          go_enter Tryd.func18, Tryd.ntmps18
          go_wp2_with (go_at_call 31; refine (vproper _ _ hm).mono ?_; rintro e w' ⟨rfl, rfl⟩; rw [HN.out])
          go_ret
          exact ⟨retI H.out.symm, (Below.refl _ _).alloc (Nat.le_refl _) _⟩
      · have H := Lib.hid (checkE_kind (kd := 1) (nu := nu) hn (.inr (.inr (.inr ⟨by decide, hx⟩))))
        have e0 : tx.toList.isEmpty = false := by simpa using str_nonempty (show 0 < tx.size by omega)
        have e1 : tx.toList ≠ [] := str_nonempty (by omega)
        cases hnz : (nu != 0)
        all_goals
          clear hn hx
          go_enter Tryd.func18, Tryd.ntmps18
          go_wp2_with (go_at_call 31; refine (vproper _ _ hm).mono ?_; rintro e w' ⟨rfl, rfl⟩; rw [HN.out])
          go_ret
          exact ⟨retI H.out.symm, (Below.refl _ _).alloc (Nat.le_refl _) _⟩
    · by_cases hz : nu = 0
      · subst hz
        by_cases hl : 640 < tx.size
        · have H := Lib.hid (checkE_long (kd := 2) (nu := 0) hn (by omega) hl)
          have e0 : tx.toList.isEmpty = false := by simpa using str_nonempty (show 0 < tx.size by omega)
          have e1 : tx.toList ≠ [] := str_nonempty (by omega)
          clear hn
          go_enter Tryd.func18, Tryd.ntmps18
          go_wp2_with (go_at_call 31; refine (vproper _ _ hm).mono ?_; rintro e w' ⟨rfl, rfl⟩; rw [HN.out])
          go_ret
          exact ⟨retI H.out.symm, (Below.refl _ _).alloc (Nat.le_refl _) _⟩
        · have H := Lib.hid (checkE_ok (kd := 2) (nu := 0) hn (by omega) hl)
          by_cases hx : tx.size = 0
          · have e0 : tx.toList.isEmpty = true := by simpa using str_empty hx
            have e1 : tx.toList = [] := str_empty hx
            have l1 : (tx.size : Int) ≤ 640 := by omega
            clear hn hx
            go_enter Tryd.func18, Tryd.ntmps18
            go_wp2_with (go_at_call 31; refine (vproper _ _ hm).mono ?_; rintro e w' ⟨rfl, rfl⟩; rw [HN.out])
            go_ret
            exact ⟨retI H.out.symm, (Below.refl _ _).alloc (Nat.le_refl _) _⟩
          · have e0 : tx.toList.isEmpty = false := by simpa using str_nonempty (show 0 < tx.size by omega)
            have e1 : tx.toList ≠ [] := str_nonempty (by omega)
            clear hn hx
            go_enter Tryd.func18, Tryd.ntmps18
            go_wp2_with (go_at_call 31; refine (vproper _ _ hm).mono ?_; rintro e w' ⟨rfl, rfl⟩; rw [HN.out])
            go_ret
            exact ⟨retI H.out.symm, (Below.refl _ _).alloc (Nat.le_refl _) _⟩
      · have H := Lib.hid (checkE_kind (kd := 2) (tx := tx) hn (.inr (.inr (.inl ⟨by decide, hz⟩))))
        have hnz : (nu != 0) = true := by simp [hz]
        clear hn hz
        go_enter Tryd.func18, Tryd.ntmps18
        go_wp2_with (go_at_call 31; refine (vproper _ _ hm).mono ?_; rintro e w' ⟨rfl, rfl⟩; rw [HN.out])
        go_ret
        exact ⟨retI H.out.symm, (Below.refl _ _).alloc (Nat.le_refl _) _⟩
    · by_cases hz : nu = 0
      · subst hz
        by_cases hx : tx.size = 0
        · have H := Lib.hid (checkE_ok (kd := 3) (nu := 0) hn (by omega) (show ¬ 640 < tx.size by omega))
          have e0 : tx.toList.isEmpty = true := by simpa using str_empty hx
          have e1 : tx.toList = [] := str_empty hx
          have l1 : (tx.size : Int) ≤ 640 := by omega
          clear hn hx
          go_enter Tryd.func18, Tryd.ntmps18
          go_wp2_with (go_at_call 31; refine (vproper _ _ hm).mono ?_; rintro e w' ⟨rfl, rfl⟩; rw [HN.out])
          go_ret
          exact ⟨retI H.out.symm, (Below.refl _ _).alloc (Nat.le_refl _) _⟩
        · have H := Lib.hid (checkE_kind (kd := 3) (nu := 0) hn (.inr (.inr (.inr ⟨by decide, hx⟩))))
          have e0 : tx.toList.isEmpty = false := by simpa using str_nonempty (show 0 < tx.size by omega)
          have e1 : tx.toList ≠ [] := str_nonempty (by omega)
          clear hn hx
          go_enter Tryd.func18, Tryd.ntmps18
          go_wp2_with (go_at_call 31; refine (vproper _ _ hm).mono ?_; rintro e w' ⟨rfl, rfl⟩; rw [HN.out])
          go_ret
          exact ⟨retI H.out.symm, (Below.refl _ _).alloc (Nat.le_refl _) _⟩
      · have H := Lib.hid (checkE_kind (kd := 3) (tx := tx) hn (.inr (.inr (.inl ⟨by decide, hz⟩))))
        have hnz : (nu != 0) = true := by simp [hz]
        clear hn hz
        go_enter Tryd.func18, Tryd.ntmps18
        go_wp2_with (go_at_call 31; refine (vproper _ _ hm).mono ?_; rintro e w' ⟨rfl, rfl⟩; rw [HN.out])
        go_ret
        exact ⟨retI H.out.symm, (Below.refl _ _).alloc (Nat.le_refl _) _⟩
set_option maxHeartbeats 4000000 in
theorem rcheck (nm : ByteArray) (kd nu : Int) (tx : ByteArray) (w : World) (hm : nm.size ≤ maxLen) (ht : tx.size ≤ maxLen) :
    Calls Tryd.prog 19 #[pairV nm kd nu tx] w fun e w' => e = .returned (.int .i64 (checkE nm kd nu tx)) ∧ Below w.heap.size w w' := by
  unfold maxLen at ht
  cases hn : nameB nm.data.toList
  · have HN := Lib.hid hn
    have H := Lib.hid (checkE_name (kd := kd) (nu := nu) (tx := tx) hn)
    clear hn
    go_enter Tryd.func19, Tryd.ntmps19
    go_wp2_with (go_at_call 32; refine (rname _ _ hm).mono ?_; rintro e w' ⟨rfl, rfl⟩; rw [HN.out])
    go_ret
    exact ⟨retI H.out.symm, (Below.refl _ _).alloc (Nat.le_refl _) _⟩
  · have HN := Lib.hid hn
    have hcs : kd < 1 ∨ 3 < kd ∨ kd = 1 ∨ kd = 2 ∨ kd = 3 := by omega
    rcases hcs with hk | hk | rfl | rfl | rfl
    · have H := Lib.hid (checkE_kind (nu := nu) (tx := tx) hn (.inl hk))
      have k1 : (kd != 1) = true := by simp; omega
      have k2 : (kd != 2) = true := by simp; omega
      have k3 : (kd != 3) = true := by simp; omega
      clear hn
      go_enter Tryd.func19, Tryd.ntmps19
      go_wp2_with (go_at_call 32; refine (rname _ _ hm).mono ?_; rintro e w' ⟨rfl, rfl⟩; rw [HN.out])
      go_ret
      exact ⟨retI H.out.symm, (Below.refl _ _).alloc (Nat.le_refl _) _⟩
    · have H := Lib.hid (checkE_kind (nu := nu) (tx := tx) hn (.inr (.inl hk)))
      have k1 : (kd != 1) = true := by simp; omega
      have k2 : (kd != 2) = true := by simp; omega
      have k3 : (kd != 3) = true := by simp; omega
      clear hn
      go_enter Tryd.func19, Tryd.ntmps19
      go_wp2_with (go_at_call 32; refine (rname _ _ hm).mono ?_; rintro e w' ⟨rfl, rfl⟩; rw [HN.out])
      go_ret
      exact ⟨retI H.out.symm, (Below.refl _ _).alloc (Nat.le_refl _) _⟩
    · by_cases hx : tx.size = 0
      · have H := Lib.hid (checkE_ok (kd := 1) (nu := nu) hn (by omega) (show ¬ 640 < tx.size by omega))
        have e0 : tx.toList.isEmpty = true := by simpa using str_empty hx
        have e1 : tx.toList = [] := str_empty hx
        have l1 : decide (640 < (tx.size : Int)) = false := by simp; omega
        cases hnz : (nu != 0)
        all_goals
          clear hn hx
          go_enter Tryd.func19, Tryd.ntmps19
          go_wp2_with (go_at_call 32; refine (rname _ _ hm).mono ?_; rintro e w' ⟨rfl, rfl⟩; rw [HN.out])
          go_ret
          exact ⟨retI H.out.symm, (Below.refl _ _).alloc (Nat.le_refl _) _⟩
      · have H := Lib.hid (checkE_kind (kd := 1) (nu := nu) hn (.inr (.inr (.inr ⟨by decide, hx⟩))))
        have e0 : tx.toList.isEmpty = false := by simpa using str_nonempty (show 0 < tx.size by omega)
        have e1 : tx.toList ≠ [] := str_nonempty (by omega)
        cases hnz : (nu != 0)
        all_goals
          clear hn hx
          go_enter Tryd.func19, Tryd.ntmps19
          go_wp2_with (go_at_call 32; refine (rname _ _ hm).mono ?_; rintro e w' ⟨rfl, rfl⟩; rw [HN.out])
          go_ret
          exact ⟨retI H.out.symm, (Below.refl _ _).alloc (Nat.le_refl _) _⟩
    · by_cases hz : nu = 0
      · subst hz
        by_cases hl : 640 < tx.size
        · have H := Lib.hid (checkE_long (kd := 2) (nu := 0) hn (by omega) hl)
          have e0 : tx.toList.isEmpty = false := by simpa using str_nonempty (show 0 < tx.size by omega)
          have e1 : tx.toList ≠ [] := str_nonempty (by omega)
          clear hn
          go_enter Tryd.func19, Tryd.ntmps19
          go_wp2_with (go_at_call 32; refine (rname _ _ hm).mono ?_; rintro e w' ⟨rfl, rfl⟩; rw [HN.out])
          go_ret
          exact ⟨retI H.out.symm, (Below.refl _ _).alloc (Nat.le_refl _) _⟩
        · have H := Lib.hid (checkE_ok (kd := 2) (nu := 0) hn (by omega) hl)
          by_cases hx : tx.size = 0
          · have e0 : tx.toList.isEmpty = true := by simpa using str_empty hx
            have e1 : tx.toList = [] := str_empty hx
            have l1 : (tx.size : Int) ≤ 640 := by omega
            clear hn hx
            go_enter Tryd.func19, Tryd.ntmps19
            go_wp2_with (go_at_call 32; refine (rname _ _ hm).mono ?_; rintro e w' ⟨rfl, rfl⟩; rw [HN.out])
            go_ret
            exact ⟨retI H.out.symm, (Below.refl _ _).alloc (Nat.le_refl _) _⟩
          · have e0 : tx.toList.isEmpty = false := by simpa using str_nonempty (show 0 < tx.size by omega)
            have e1 : tx.toList ≠ [] := str_nonempty (by omega)
            clear hn hx
            go_enter Tryd.func19, Tryd.ntmps19
            go_wp2_with (go_at_call 32; refine (rname _ _ hm).mono ?_; rintro e w' ⟨rfl, rfl⟩; rw [HN.out])
            go_ret
            exact ⟨retI H.out.symm, (Below.refl _ _).alloc (Nat.le_refl _) _⟩
      · have H := Lib.hid (checkE_kind (kd := 2) (tx := tx) hn (.inr (.inr (.inl ⟨by decide, hz⟩))))
        have hnz : (nu != 0) = true := by simp [hz]
        clear hn hz
        go_enter Tryd.func19, Tryd.ntmps19
        go_wp2_with (go_at_call 32; refine (rname _ _ hm).mono ?_; rintro e w' ⟨rfl, rfl⟩; rw [HN.out])
        go_ret
        exact ⟨retI H.out.symm, (Below.refl _ _).alloc (Nat.le_refl _) _⟩
    · by_cases hz : nu = 0
      · subst hz
        by_cases hx : tx.size = 0
        · have H := Lib.hid (checkE_ok (kd := 3) (nu := 0) hn (by omega) (show ¬ 640 < tx.size by omega))
          have e0 : tx.toList.isEmpty = true := by simpa using str_empty hx
          have e1 : tx.toList = [] := str_empty hx
          have l1 : (tx.size : Int) ≤ 640 := by omega
          clear hn hx
          go_enter Tryd.func19, Tryd.ntmps19
          go_wp2_with (go_at_call 32; refine (rname _ _ hm).mono ?_; rintro e w' ⟨rfl, rfl⟩; rw [HN.out])
          go_ret
          exact ⟨retI H.out.symm, (Below.refl _ _).alloc (Nat.le_refl _) _⟩
        · have H := Lib.hid (checkE_kind (kd := 3) (nu := 0) hn (.inr (.inr (.inr ⟨by decide, hx⟩))))
          have e0 : tx.toList.isEmpty = false := by simpa using str_nonempty (show 0 < tx.size by omega)
          have e1 : tx.toList ≠ [] := str_nonempty (by omega)
          clear hn hx
          go_enter Tryd.func19, Tryd.ntmps19
          go_wp2_with (go_at_call 32; refine (rname _ _ hm).mono ?_; rintro e w' ⟨rfl, rfl⟩; rw [HN.out])
          go_ret
          exact ⟨retI H.out.symm, (Below.refl _ _).alloc (Nat.le_refl _) _⟩
      · have H := Lib.hid (checkE_kind (kd := 3) (tx := tx) hn (.inr (.inr (.inl ⟨by decide, hz⟩))))
        have hnz : (nu != 0) = true := by simp [hz]
        clear hn hz
        go_enter Tryd.func19, Tryd.ntmps19
        go_wp2_with (go_at_call 32; refine (rname _ _ hm).mono ?_; rintro e w' ⟨rfl, rfl⟩; rw [HN.out])
        go_ret
        exact ⟨retI H.out.symm, (Below.refl _ _).alloc (Nat.le_refl _) _⟩
end Go.Proofs.YthidojkckhjciaaDoor

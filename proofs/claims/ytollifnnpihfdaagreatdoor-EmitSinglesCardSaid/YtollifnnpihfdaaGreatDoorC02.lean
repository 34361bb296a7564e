/- Texts of one proof, laid together. -/
import Derived.Test.YtollifnnpihfdaaGreatDoorProg
import Derived.Test.YtollifnnpihfdaaGreatDoorC01
import Derived.WalkKit
import Derived.WalkSpells
import Derived.LoopTactic
import Derived.Lib.Hide
import Derived.Outline
/- The two functions safe answer as safeB does, and leave the world alone. -/
namespace Go.Proofs.YtollifnnpihfdaaGreatDoor
open Go.RowKit
set_option maxHeartbeats 400000 in
theorem vsafe (s : ByteArray) (w : World) (hs : s.size ≤ maxLen) :
    Calls Tryz.prog 244 #[.string s] w fun e w' => e = .returned (.bool (safeB s.data.toList)) ∧ w = w' := by
  unfold maxLen at hs
  go_enter Tryz.func244, Tryz.ntmps244
  go_wp2
  go_loop [6] (fun i => ∃ k : Nat, k ≤ s.size ∧ i = .int .i64 k ∧ Hid (safeB (s.data.toList.take k) = true)) (fun i => s.size - (intOf i).toNat)
  case atStart => exact ⟨0, Nat.zero_le _, rfl, rfl⟩
  case round =>
    obtain ⟨k, hk, rfl, hsafe⟩ := hrel
    by_cases hlt : k < s.size
    · by_cases hc : okc s[k] = true
      · have H := Lib.hid (safe_step s k hlt hsafe.out hc)
        obtain ⟨c1, c2, c3⟩ := okc_true_inv hc
        clear hc
        go_wp2
        go_round
        case rel => exact ⟨k + 1, by omega, by go_num, H⟩
        case measure => simp [intOf]; omega
      · have H := Lib.hid (safe_stop s k hlt (by simpa using hc))
        have hc' := Lib.hid hc
        clear hc
        go_wp2
        case roundEnd => exact absurd (okc_true (by omega) (by omega) (by simp_all)) hc'.out
        all_goals
          go_ret
          exact ⟨retB H.out.symm, rfl⟩
    · go_wp2
      go_ret
      exact ⟨retB (by rw [← take_all s k (by omega), hsafe.out]), rfl⟩
set_option maxHeartbeats 400000 in
theorem rsafe (s : ByteArray) (w : World) (hs : s.size ≤ maxLen) :
    Calls Tryz.prog 240 #[.string s] w fun e w' => e = .returned (.bool (safeB s.data.toList)) ∧ w = w' := by
  unfold maxLen at hs
  go_enter Tryz.func240, Tryz.ntmps240
  go_wp2
  go_loop [3] (fun i => ∃ k : Nat, k ≤ s.size ∧ i = .int .i64 k ∧ Hid (safeB (s.data.toList.take k) = true)) (fun i => s.size - (intOf i).toNat)
  case atStart => exact ⟨0, Nat.zero_le _, rfl, rfl⟩
  case round =>
    obtain ⟨k, hk, rfl, hsafe⟩ := hrel
    by_cases hlt : k < s.size
    · by_cases hc : okc s[k] = true
      · have H := Lib.hid (safe_step s k hlt hsafe.out hc)
        obtain ⟨c1, c2, c3⟩ := okc_true_inv hc
        clear hc
        go_wp2
        go_round
        case rel => exact ⟨k + 1, by omega, by go_num, H⟩
        case measure => simp [intOf]; omega
      · have H := Lib.hid (safe_stop s k hlt (by simpa using hc))
        have hc' := Lib.hid hc
        clear hc
        go_wp2
        case roundEnd => exact absurd (okc_true (by omega) (by omega) (by simp_all)) hc'.out
        all_goals
          go_ret
          exact ⟨retB H.out.symm, rfl⟩
    · go_wp2
      go_ret
      exact ⟨retB (by rw [← take_all s k (by omega), hsafe.out]), rfl⟩
end Go.Proofs.YtollifnnpihfdaaGreatDoor
/- The name of a pair: proper of package value, name of the reference. -/
namespace Go.Proofs.YtollifnnpihfdaaGreatDoor
open Go.RowKit
/-- A letter; a byte of a name. -/
def nma (c : UInt8) : Bool := decide (97 ≤ c.toNat) && decide (c.toNat ≤ 122)
def nmd (c : UInt8) : Bool := nma c || (decide (48 ≤ c.toNat) && decide (c.toNat ≤ 57)) || decide (c.toNat = 95)
def nameBv (l : List UInt8) : Bool := match l with
  | [] => false
  | a :: r => decide (l.length ≤ 16) && nma a && r.all nmd
theorem nma_nmd {c : UInt8} (h : nma c = true) : nmd c = true := by unfold nmd; rw [h]; rfl
theorem all_step (p : UInt8 → Bool) (s : ByteArray) (k : Nat) (h : k < s.size) (hp : (s.data.toList.take k).all p = true) (hc : p s[k] = true) : (s.data.toList.take (k + 1)).all p = true := by
  rw [take_snoc s k h, List.all_append, hp]; simp [hc]
theorem all_stop (p : UInt8 → Bool) (s : ByteArray) (k : Nat) (h : k < s.size) (hc : p s[k] = false) : s.data.toList.all p = false := by
  rw [← Bool.not_eq_true]; intro hall
  have := (List.all_eq_true.1 hall) s[k] (Array.mem_toList_iff.2 (Array.getElem_mem (xs := s.data) h))
  rw [hc] at this; cases this
theorem name_eq (s : ByteArray) (h0 : 0 < s.size) : nameBv s.data.toList = (decide (s.size ≤ 16) && nma s[0] && s.data.toList.all nmd) := by
  have hh : s.data.toList = s[0] :: s.data.toList.tail := by
    have : s.data.toList = s.data.toList.drop 0 := rfl
    rw [this, List.drop_eq_getElem_cons (by simpa using h0)]; rfl
  have hl : s.data.toList.length = s.size := Array.length_toList
  rw [hh] at hl ⊢
  unfold nameBv
  rw [hl, List.all_cons]
  cases hn : nma s[0]
  · simp [hn]
  · simp [hn, nma_nmd hn]
theorem nmd_false {c : UInt8} (h : ¬ nmd c = true) : ¬ (97 ≤ (c.toNat : Int) ∧ (c.toNat : Int) ≤ 122) ∧ ¬ (48 ≤ (c.toNat : Int) ∧ (c.toNat : Int) ≤ 57) ∧ (c.toNat : Int) ≠ 95 := by
  unfold nmd nma at h; simp at h; omega
theorem nmd_true {c : UInt8} (h : nmd c = true) : (97 ≤ (c.toNat : Int) ∧ (c.toNat : Int) ≤ 122) ∨ (48 ≤ (c.toNat : Int) ∧ (c.toNat : Int) ≤ 57) ∨ (c.toNat : Int) = 95 := by
  unfold nmd nma at h; simp at h; omega
theorem nma_true {c : UInt8} : nma c = true ↔ 97 ≤ (c.toNat : Int) ∧ (c.toNat : Int) ≤ 122 := by
  unfold nma; simp; omega
theorem nameB_empty (s : ByteArray) (h : s.size = 0) : nameBv s.data.toList = false := by
  have : s.data.toList = [] := List.eq_nil_of_length_eq_zero (Array.length_toList.trans h)
  rw [this]; rfl
theorem str_empty {s : ByteArray} (h : s.size = 0) : s.toList = [] := by
  rw [ByteArray.toList_eq]; exact List.eq_nil_of_length_eq_zero (Array.length_toList.trans h)
theorem str_nonemptyV {s : ByteArray} (h : 0 < s.size) : s.toList ≠ [] := fun e => by
  rw [ByteArray.toList_eq] at e
  have : s.data.toList.length = s.size := Array.length_toList
  rw [e] at this; simp at this; omega
set_option maxHeartbeats 2000000 in
theorem rname_loop (s : ByteArray) (w : World) (h0 : 0 < s.size) (h16 : s.size ≤ 16) :
    Calls Tryz.prog 239 #[.string s] w fun e w' => e = .returned (.bool (nameBv s.data.toList)) ∧ w = w' := by
  have HN := Lib.hid (name_eq s h0)
  have d0 : decide ((s.size : Int) < 1) = false := by simp; omega
  have d1 : decide (16 < (s.size : Int)) = false := by simp; omega
  go_enter Tryz.func239, Tryz.ntmps239
  go_wp2
  go_loop [3] (fun i => ∃ k : Nat, k ≤ s.size ∧ i = .int .i64 k ∧ Hid ((s.data.toList.take k).all nmd = true ∧ (0 < k → nma s[0] = true))) (fun i => s.size - (intOf i).toNat)
  case atStart => exact ⟨0, Nat.zero_le _, rfl, rfl, fun h => by omega⟩
  case round =>
    obtain ⟨k, hk, rfl, hsafe⟩ := hrel
    by_cases hlt : k < s.size
    · by_cases hc : nma s[k] = true
      · have H := Lib.hid (all_step nmd s k hlt hsafe.out.1 (nma_nmd hc))
        have HC := Lib.hid hc
        obtain ⟨c1, c2⟩ := nma_true.1 hc
        clear hc d0 d1
        go_wp2
        go_round
        case rel => exact ⟨k + 1, by omega, by go_num, H.out, fun _ => by
          by_cases hk0 : k = 0
          · subst hk0; exact HC.out
          · exact hsafe.out.2 (by omega)⟩
        case measure => simp [intOf]; omega
      · have hna : (s[k].toNat : Int) < 97 ∨ (97 ≤ (s[k].toNat : Int) ∧ 122 < (s[k].toNat : Int)) := by
          have : ¬ (97 ≤ (s[k].toNat : Int) ∧ (s[k].toNat : Int) ≤ 122) := fun e => hc (nma_true.2 e)
          omega
        by_cases hk0 : k = 0
        · subst hk0
          have H := Lib.hid (show nameBv s.data.toList = false by rw [HN.out]; simp [hc])
          clear hc d0 d1
          rcases hna with c1 | ⟨c1, c2⟩
          · go_wp2
            go_ret
            exact ⟨retB H.out.symm, rfl⟩
          · have c3 : decide ((s[0].toNat : Int) ≤ 122) = false := by simp; omega
            go_wp2
            go_ret
            exact ⟨retB H.out.symm, rfl⟩
        · have k0 : (0 : Int) < (k : Int) := by omega
          by_cases hd : nmd s[k] = true
          · have H := Lib.hid (all_step nmd s k hlt hsafe.out.1 hd)
            have h3 : (48 ≤ (s[k].toNat : Int) ∧ (s[k].toNat : Int) ≤ 57) ∨ (s[k].toNat : Int) = 95 := by
              rcases nmd_true hd with h | h
              · omega
              · exact h
            clear hc hd d0 d1 hk0
            have hna' : (s[k].toNat : Int) < 97 := by omega
            clear hna
            rcases h3 with ⟨c1, c2⟩ | c1
            · go_wp2
              go_round
              case rel => exact ⟨k + 1, by omega, by go_num, H.out, fun _ => hsafe.out.2 (by omega)⟩
              case measure => simp [intOf]; omega
            · have c2 : ((s[k].toNat : Int) == 95) = true := by simp [c1]
              have c4 : 57 < (s[k].toNat : Int) := by omega
              have c3 : 48 ≤ (s[k].toNat : Int) := by omega
              clear c1
              go_wp2
              go_round
              case rel => exact ⟨k + 1, by omega, by go_num, H.out, fun _ => hsafe.out.2 (by omega)⟩
              case measure => simp [intOf]; omega
          · have H := Lib.hid (show nameBv s.data.toList = false by rw [HN.out, all_stop nmd s k hlt (by simpa using hd)]; simp)
            obtain ⟨c1, c2, c3⟩ := nmd_false hd
            have c4 : ((s[k].toNat : Int) == 95) = false := by simp [c3]
            have hcases : (s[k].toNat : Int) < 48 ∨ (57 < (s[k].toNat : Int) ∧ (s[k].toNat : Int) < 97) ∨ 122 < (s[k].toNat : Int) := by omega
            clear c1 c2 c3 hc hd d0 d1 hk0 hna
            rcases hcases with c1 | ⟨c1, c2⟩ | c1
            · go_wp2
              go_ret
              exact ⟨retB H.out.symm, rfl⟩
            · have c3 : decide ((s[k].toNat : Int) ≤ 57) = false := by simp; omega
              go_wp2
              go_ret
              exact ⟨retB H.out.symm, rfl⟩
            · have c3 : decide ((s[k].toNat : Int) ≤ 57) = false := by simp; omega
              have c5 : decide ((s[k].toNat : Int) ≤ 122) = false := by simp; omega
              go_wp2
              go_ret
              exact ⟨retB H.out.symm, rfl⟩
    · go_wp2
      go_ret
      exact ⟨retB (by rw [HN.out, hsafe.out.2 (by omega), ← take_all s k (by omega), hsafe.out.1]; simp; omega), rfl⟩
theorem rnameP (s : ByteArray) (w : World) (hm : s.size ≤ maxLen) : Calls Tryz.prog 239 #[.string s] w fun e w' => e = .returned (.bool (nameBv s.data.toList)) ∧ w = w' := by
  by_cases h0 : 0 < s.size
  · by_cases h16 : s.size ≤ 16
    · exact rname_loop s w h0 h16
    · unfold maxLen at hm
      have H := Lib.hid (show nameBv s.data.toList = false by rw [name_eq s (by omega)]; simp; omega)
      go_enter Tryz.func239, Tryz.ntmps239
      go_wp2
      go_ret
      exact ⟨retB H.out.symm, rfl⟩
  · have H := Lib.hid (nameB_empty s (by omega))
    go_enter Tryz.func239, Tryz.ntmps239
    go_wp2
    go_ret
    exact ⟨retB H.out.symm, rfl⟩
end Go.Proofs.YtollifnnpihfdaaGreatDoor
/- Check, of the program and of the reference, returns checkE. -/
namespace Go.Proofs.YtollifnnpihfdaaGreatDoor
open Go.RowKit
/-- A pair as a value. -/
abbrev pairV (nm : ByteArray) (kd nu : Int) (tx : ByteArray) : Value := .agg #[.string nm, .int .i64 kd, .int .i64 nu, .string tx]
def checkE (nm : ByteArray) (kd nu : Int) (tx : ByteArray) : Int :=
  if nameBv nm.data.toList = false then 22 else if kd < 1 ∨ 3 < kd ∨ (kd ≠ 1 ∧ nu ≠ 0) ∨ (kd ≠ 2 ∧ tx.size ≠ 0) then 23 else if 640 < tx.size then 20 else 0
theorem checkE_name {nm : ByteArray} {kd nu : Int} {tx : ByteArray} (h : nameBv nm.data.toList = false) : checkE nm kd nu tx = 22 := if_pos h
theorem checkE_kind {nm : ByteArray} {kd nu : Int} {tx : ByteArray} (h : nameBv nm.data.toList = true) (k : kd < 1 ∨ 3 < kd ∨ (kd ≠ 1 ∧ nu ≠ 0) ∨ (kd ≠ 2 ∧ tx.size ≠ 0)) : checkE nm kd nu tx = 23 := by
  unfold checkE; rw [if_neg (by rw [h]; simp), if_pos k]
theorem checkE_long {nm : ByteArray} {kd nu : Int} {tx : ByteArray} (h : nameBv nm.data.toList = true) (k : ¬ (kd < 1 ∨ 3 < kd ∨ (kd ≠ 1 ∧ nu ≠ 0) ∨ (kd ≠ 2 ∧ tx.size ≠ 0))) (l : 640 < tx.size) : checkE nm kd nu tx = 20 := by
  unfold checkE; rw [if_neg (by rw [h]; simp), if_neg k, if_pos l]
theorem checkE_ok {nm : ByteArray} {kd nu : Int} {tx : ByteArray} (h : nameBv nm.data.toList = true) (k : ¬ (kd < 1 ∨ 3 < kd ∨ (kd ≠ 1 ∧ nu ≠ 0) ∨ (kd ≠ 2 ∧ tx.size ≠ 0))) (l : ¬ 640 < tx.size) : checkE nm kd nu tx = 0 := by
  unfold checkE; rw [if_neg (by rw [h]; simp), if_neg k, if_neg l]

set_option maxHeartbeats 4000000 in
theorem rcheck (nm : ByteArray) (kd nu : Int) (tx : ByteArray) (w : World) (hm : nm.size ≤ maxLen) (ht : tx.size ≤ maxLen) :
    Calls Tryz.prog 175 #[pairV nm kd nu tx] w fun e w' => e = .returned (.int .i64 (checkE nm kd nu tx)) ∧ Below w.heap.size w w' := by
  unfold maxLen at ht
  cases hn : nameBv nm.data.toList
  · have HN := Lib.hid hn
    have H := Lib.hid (checkE_name (kd := kd) (nu := nu) (tx := tx) hn)
    clear hn
    go_enter Tryz.func175, Tryz.ntmps175
    go_wp2_with (go_at_call 239; refine (rnameP _ _ hm).mono ?_; rintro e w' ⟨rfl, rfl⟩; rw [HN.out])
    go_ret
    exact ⟨retI H.out.symm, (Below.refl _ _).alloc (Nat.le_refl _) _⟩
  · have HN := Lib.hid hn
    have hcs : kd < 1 ∨ 3 < kd ∨ kd = 1 ∨ kd = 2 ∨ kd = 3 := by omega
    rcases hcs with hk | hk | rfl | rfl | rfl
    · have H := Lib.hid (checkE_kind (nu := nu) (tx := tx) hn (.inl hk))
      have k1 : (kd != 1) = true := by simp; omega
      have k2 : (kd != 2) = true := by simp; omega
      have k3 : (kd != 3) = true := by simp; omega
      clear hn
      go_enter Tryz.func175, Tryz.ntmps175
      go_wp2_with (go_at_call 239; refine (rnameP _ _ hm).mono ?_; rintro e w' ⟨rfl, rfl⟩; rw [HN.out])
      go_ret
      exact ⟨retI H.out.symm, (Below.refl _ _).alloc (Nat.le_refl _) _⟩
    · have H := Lib.hid (checkE_kind (nu := nu) (tx := tx) hn (.inr (.inl hk)))
      have k1 : (kd != 1) = true := by simp; omega
      have k2 : (kd != 2) = true := by simp; omega
      have k3 : (kd != 3) = true := by simp; omega
      clear hn
      go_enter Tryz.func175, Tryz.ntmps175
      go_wp2_with (go_at_call 239; refine (rnameP _ _ hm).mono ?_; rintro e w' ⟨rfl, rfl⟩; rw [HN.out])
      go_ret
      exact ⟨retI H.out.symm, (Below.refl _ _).alloc (Nat.le_refl _) _⟩
    · by_cases hx : tx.size = 0
      · have H := Lib.hid (checkE_ok (kd := 1) (nu := nu) hn (by omega) (show ¬ 640 < tx.size by omega))
        have e0 : tx.toList.isEmpty = true := by simpa using str_empty hx
        have e1 : tx.toList = [] := str_empty hx
        have l1 : decide (640 < (tx.size : Int)) = false := by simp; omega
        cases hnz : (nu != 0)
        all_goals
          clear hn hx
          go_enter Tryz.func175, Tryz.ntmps175
          go_wp2_with (go_at_call 239; refine (rnameP _ _ hm).mono ?_; rintro e w' ⟨rfl, rfl⟩; rw [HN.out])
          go_ret
          exact ⟨retI H.out.symm, (Below.refl _ _).alloc (Nat.le_refl _) _⟩
      · have H := Lib.hid (checkE_kind (kd := 1) (nu := nu) hn (.inr (.inr (.inr ⟨by decide, hx⟩))))
        have e0 : tx.toList.isEmpty = false := by simpa using str_nonemptyV (show 0 < tx.size by omega)
        have e1 : tx.toList ≠ [] := str_nonemptyV (by omega)
        cases hnz : (nu != 0)
        all_goals
          clear hn hx
          go_enter Tryz.func175, Tryz.ntmps175
          go_wp2_with (go_at_call 239; refine (rnameP _ _ hm).mono ?_; rintro e w' ⟨rfl, rfl⟩; rw [HN.out])
          go_ret
          exact ⟨retI H.out.symm, (Below.refl _ _).alloc (Nat.le_refl _) _⟩
    · by_cases hz : nu = 0
      · subst hz
        by_cases hl : 640 < tx.size
        · have H := Lib.hid (checkE_long (kd := 2) (nu := 0) hn (by omega) hl)
          have e0 : tx.toList.isEmpty = false := by simpa using str_nonemptyV (show 0 < tx.size by omega)
          have e1 : tx.toList ≠ [] := str_nonemptyV (by omega)
          clear hn
          go_enter Tryz.func175, Tryz.ntmps175
          go_wp2_with (go_at_call 239; refine (rnameP _ _ hm).mono ?_; rintro e w' ⟨rfl, rfl⟩; rw [HN.out])
          go_ret
          exact ⟨retI H.out.symm, (Below.refl _ _).alloc (Nat.le_refl _) _⟩
        · have H := Lib.hid (checkE_ok (kd := 2) (nu := 0) hn (by omega) hl)
          by_cases hx : tx.size = 0
          · have e0 : tx.toList.isEmpty = true := by simpa using str_empty hx
            have e1 : tx.toList = [] := str_empty hx
            have l1 : (tx.size : Int) ≤ 640 := by omega
            clear hn hx
            go_enter Tryz.func175, Tryz.ntmps175
            go_wp2_with (go_at_call 239; refine (rnameP _ _ hm).mono ?_; rintro e w' ⟨rfl, rfl⟩; rw [HN.out])
            go_ret
            exact ⟨retI H.out.symm, (Below.refl _ _).alloc (Nat.le_refl _) _⟩
          · have e0 : tx.toList.isEmpty = false := by simpa using str_nonemptyV (show 0 < tx.size by omega)
            have e1 : tx.toList ≠ [] := str_nonemptyV (by omega)
            clear hn hx
            go_enter Tryz.func175, Tryz.ntmps175
            go_wp2_with (go_at_call 239; refine (rnameP _ _ hm).mono ?_; rintro e w' ⟨rfl, rfl⟩; rw [HN.out])
            go_ret
            exact ⟨retI H.out.symm, (Below.refl _ _).alloc (Nat.le_refl _) _⟩
      · have H := Lib.hid (checkE_kind (kd := 2) (tx := tx) hn (.inr (.inr (.inl ⟨by decide, hz⟩))))
        have hnz : (nu != 0) = true := by simp [hz]
        clear hn hz
        go_enter Tryz.func175, Tryz.ntmps175
        go_wp2_with (go_at_call 239; refine (rnameP _ _ hm).mono ?_; rintro e w' ⟨rfl, rfl⟩; rw [HN.out])
        go_ret
        exact ⟨retI H.out.symm, (Below.refl _ _).alloc (Nat.le_refl _) _⟩
    · by_cases hz : nu = 0
      · subst hz
        by_cases hx : tx.size = 0
        · have H := Lib.hid (checkE_ok (kd := 3) (nu := 0) hn (by omega) (show ¬ 640 < tx.size by omega))
          have e0 : tx.toList.isEmpty = true := by simpa using str_empty hx
          have e1 : tx.toList = [] := str_empty hx
          have l1 : (tx.size : Int) ≤ 640 := by omega
          clear hn hx
          go_enter Tryz.func175, Tryz.ntmps175
          go_wp2_with (go_at_call 239; refine (rnameP _ _ hm).mono ?_; rintro e w' ⟨rfl, rfl⟩; rw [HN.out])
          go_ret
          exact ⟨retI H.out.symm, (Below.refl _ _).alloc (Nat.le_refl _) _⟩
        · have H := Lib.hid (checkE_kind (kd := 3) (nu := 0) hn (.inr (.inr (.inr ⟨by decide, hx⟩))))
          have e0 : tx.toList.isEmpty = false := by simpa using str_nonemptyV (show 0 < tx.size by omega)
          have e1 : tx.toList ≠ [] := str_nonemptyV (by omega)
          clear hn hx
          go_enter Tryz.func175, Tryz.ntmps175
          go_wp2_with (go_at_call 239; refine (rnameP _ _ hm).mono ?_; rintro e w' ⟨rfl, rfl⟩; rw [HN.out])
          go_ret
          exact ⟨retI H.out.symm, (Below.refl _ _).alloc (Nat.le_refl _) _⟩
      · have H := Lib.hid (checkE_kind (kd := 3) (tx := tx) hn (.inr (.inr (.inl ⟨by decide, hz⟩))))
        have hnz : (nu != 0) = true := by simp [hz]
        clear hn hz
        go_enter Tryz.func175, Tryz.ntmps175
        go_wp2_with (go_at_call 239; refine (rnameP _ _ hm).mono ?_; rintro e w' ⟨rfl, rfl⟩; rw [HN.out])
        go_ret
        exact ⟨retI H.out.symm, (Below.refl _ _).alloc (Nat.le_refl _) _⟩
end Go.Proofs.YtollifnnpihfdaaGreatDoor
/- The source of numbers of package kauditmake: Text and Pair. -/
namespace Go.Proofs.YtollifnnpihfdaaGreatDoor
open Go.RowKit
theorem heap_new_at {w : World} {o : Obj} {k : Nat} (h : w.heap.size = k) : (w.alloc o).heap[k]? = some o := h ▸ heap_alloc_new w o
/-- A block of the call's own that holds a pair. -/
def PBlk (w : World) (p : Nat) (nm : ByteArray) (kd nu : Int) (tx : ByteArray) : Prop := w.heap[p]? = some (.cells #[.string nm, .int .i64 kd, .int .i64 nu, .string tx] 79 (0, 0))
theorem PBlk.lt {w : World} {p : Nat} {nm : ByteArray} {kd nu : Int} {tx : ByteArray} (h : PBlk w p nm kd nu tx) : p < w.heap.size := (Array.getElem?_eq_some_iff.1 h).1
theorem PBlk.cells {w : World} {p : Nat} {nm : ByteArray} {kd nu : Int} {tx : ByteArray} (h : PBlk w p nm kd nu tx) :
    w.cell? ⟨p, 0, none⟩ = some (.string nm) ∧ w.cell? ⟨p, 1, none⟩ = some (.int .i64 kd) ∧ w.cell? ⟨p, 2, none⟩ = some (.int .i64 nu) ∧ w.cell? ⟨p, 3, none⟩ = some (.string tx) :=
  ⟨cell_of_row w p 0 _ _ _ h, cell_of_row w p 1 _ _ _ h, cell_of_row w p 2 _ _ _ h, cell_of_row w p 3 _ _ _ h⟩
theorem PBlk.frozen {w : World} {p : Nat} {nm : ByteArray} {kd nu : Int} {tx : ByteArray} (h : PBlk w p nm kd nu tx) : ∀ i, w.frozen? ⟨p, i, none⟩ = false := fun i => frozen_of_row w p i _ _ h
theorem PBlk.only {w w' : World} {p g : Nat} {nm : ByteArray} {kd nu : Int} {tx : ByteArray} (h : PBlk w p nm kd nu tx) (hg : w.grownBy w' (some g)) (hne : p ≠ g) : PBlk w' p nm kd nu tx :=
  (hg.block p h.lt (fun e => hne (by injection e))).trans h
theorem PBlk.alloc {w : World} {p : Nat} {nm : ByteArray} {kd nu : Int} {tx : ByteArray} (h : PBlk w p nm kd nu tx) (o : Obj) : PBlk (w.alloc o) p nm kd nu tx := (Below.heap_alloc w o p h.lt).trans h
theorem PBlk.set {w : World} {p : Nat} {nm : ByteArray} {kd nu : Int} {tx : ByteArray} (h : PBlk w p nm kd nu tx) (i : Nat) (u : Value) : (w.setCell ⟨p, i, none⟩ u).heap[p]? = some (.cells ((#[.string nm, .int .i64 kd, .int .i64 nu, .string tx] : Array Value).setIfInBounds i u) 79 (0, 0)) := heap_setCell_same w p i _ _ u h
theorem PBlk.far {w : World} {p : Nat} {nm : ByteArray} {kd nu : Int} {tx : ByteArray} (h : PBlk w p nm kd nu tx) {q : Addr} (hq : p ≠ q.block) (u : Value) : PBlk (w.setCell q u) p nm kd nu tx := (Below.heap_setCell w q u p hq).trans h
theorem four_set {w : World} {r : Nat} {nm0 : ByteArray} {kd0 nu0 : Int} {tx0 : ByteArray} (h : PBlk w r nm0 kd0 nu0 tx0) (nm : ByteArray) (kd nu : Int) (tx : ByteArray) :
    PBlk ((((w.setCell ⟨r, 0, none⟩ (.string nm)).setCell ⟨r, 1, none⟩ (.int .i64 kd)).setCell ⟨r, 2, none⟩ (.int .i64 nu)).setCell ⟨r, 3, none⟩ (.string tx)) r nm kd nu tx := by
  have h1 := h.set 0 (.string nm)
  have h2 := heap_setCell_same _ r 1 _ _ (.int .i64 kd) h1
  have h3 := heap_setCell_same _ r 2 _ _ (.int .i64 nu) h2
  exact heap_setCell_same _ r 3 _ _ (.string tx) h3
theorem four_only {a w : World} {g r : Nat} (h : a.grownBy w (some g)) (hr : r = g ∨ a.heap.size ≤ r) (nm : ByteArray) (kd nu : Int) (tx : ByteArray) :
    a.grownBy ((((w.setCell ⟨r, 0, none⟩ (.string nm)).setCell ⟨r, 1, none⟩ (.int .i64 kd)).setCell ⟨r, 2, none⟩ (.int .i64 nu)).setCell ⟨r, 3, none⟩ (.string tx)) (some g) :=
  only_setCell (p := ⟨r, 3, none⟩) (only_setCell (p := ⟨r, 2, none⟩) (only_setCell (p := ⟨r, 1, none⟩) (only_setCell (p := ⟨r, 0, none⟩) h hr _) hr _) hr _) hr _
theorem four_src {w : World} {base g r : Nat} {b : Int} (h : SrcOk w base g b) (hr : base ≤ r) (hne : r ≠ g) (nm : ByteArray) (kd nu : Int) (tx : ByteArray) :
    SrcOk ((((w.setCell ⟨r, 0, none⟩ (.string nm)).setCell ⟨r, 1, none⟩ (.int .i64 kd)).setCell ⟨r, 2, none⟩ (.int .i64 nu)).setCell ⟨r, 3, none⟩ (.string tx)) base g b :=
  (((h.setCell (p := ⟨r, 0, none⟩) hr hne _).setCell (p := ⟨r, 1, none⟩) hr hne _).setCell (p := ⟨r, 2, none⟩) hr hne _).setCell (p := ⟨r, 3, none⟩) hr hne _
abbrev pairO' (nm : ByteArray) (kd nu : Int) (tx : ByteArray) : Obj := .cells #[.string nm, .int .i64 kd, .int .i64 nu, .string tx] 79
theorem pick7 (z : Int) (h0 : 0 ≤ z) (h1 : z < 1000) : intsIn #[.int .i64 0, .int .i64 1, .int .i64 (-1), .int .i64 42, .int .i64 9223372036854775807, .int .i64 (-9223372036854775808), .int .i64 z] (-9223372036854775808) 9223372036854775807 = true := by
  unfold intsIn; simp; omega
def PairPost (w : World) (base g : Nat) (b : Int) (e : Ending) (w' : World) : Prop := ∃ (nm : ByteArray) (kd nu : Int) (tx : ByteArray), e = .returned (pairV nm kd nu tx) ∧ nm.size ≤ 17 ∧ 1 ≤ kd ∧ kd ≤ 3 ∧ -9223372036854775808 ≤ nu ∧ nu ≤ 9223372036854775807 ∧ tx.size ≤ 4 ∧ SrcOk w' base g b ∧ w.grownBy w' (some g)
end Go.Proofs.YtollifnnpihfdaaGreatDoor
/- Pairs and records as values and in memory. -/
namespace Go.Proofs.YtollifnnpihfdaaGreatDoor
open Go.RowKit
structure Pr where
  nm : ByteArray
  kd : Int
  nu : Int
  tx : ByteArray
structure Rc where
  ty : Int
  ti : Int
  se : Int
  ps : List Pr
abbrev prV (p : Pr) : Value := pairV p.nm p.kd p.nu p.tx
abbrev rcC (r : Rc) (v : Value) : Array Value := #[.int .i64 r.ty, .int .i64 r.ti, .int .i64 r.se, v]
abbrev rcV (r : Rc) (v : Value) : Value := .agg (rcC r v)
theorem Tryz.infoPr : (Tryz.prog.info? 79).map (fun i => (i.zero, i.size, i.bytes)) = some (some (.agg #[.string ⟨#[]⟩, .int .i64 0, .int .i64 0, .string ⟨#[]⟩]), 4, 48) := by kernel_rfl
theorem Tryz.infoRc : (Tryz.prog.info? 77).map (fun i => (i.zero, i.size, i.bytes)) = some (some (.agg #[.int .i64 0, .int .i64 0, .int .i64 0, .slice none 0 0]), 4, 48) := by kernel_rfl
/-- Pairs. -/
def EP : El Pr where
  C p := [.string p.nm, .int .i64 p.kd, .int .i64 p.nu, .string p.tx]
  e := 79
  sl := 75
  sz := 4
  bs := 48
  len _ := rfl
  one p u hu := by simp at hu; rcases hu with rfl | rfl | rfl | rfl <;> rfl
  pos := by omega
  small := by omega
  hu := Tryz.underlying75
  info := by
    obtain ⟨i0, h1, h2, h3, h4⟩ := info_parts Tryz.infoPr
    exact ⟨i0, _, h1, h2, h3, h4, rfl⟩
/-- A record with its slice of pairs. -/
structure Rm where
  r : Rc
  A : Option Addr
  c : Nat
abbrev Rm.sl (x : Rm) : Value := .slice x.A x.r.ps.length x.c
/-- Records, each with its slice of pairs. -/
def ER : El Rm where
  C x := [.int .i64 x.r.ty, .int .i64 x.r.ti, .int .i64 x.r.se, .slice x.A x.r.ps.length x.c]
  e := 77
  sl := 65
  sz := 4
  bs := 48
  len _ := rfl
  one x u hu := by simp at hu; rcases hu with rfl | rfl | rfl | rfl <;> rfl
  pos := by omega
  small := by omega
  hu := Tryz.underlying65
  info := by
    obtain ⟨i0, h1, h2, h3, h4⟩ := info_parts Tryz.infoRc
    exact ⟨i0, _, h1, h2, h3, h4, rfl⟩
theorem rc_sz (r : Rc) (v : Value) : (Tryz.prog.info? 77).map (·.size) = some (rcC r v).size := by show _ = some 4; kernel_rfl
def zeroRc : Rc := ⟨0, 0, 0, []⟩
abbrev RcB (w : World) (g : Nat) (r : Rc) (v : Value) : Prop := Blk w g 77 (rcC r v)
end Go.Proofs.YtollifnnpihfdaaGreatDoor
/- The source of numbers of package kauditmake: Record. -/
namespace Go.Proofs.YtollifnnpihfdaaGreatDoor
open Go.RowKit
theorem rec_one (r : Rc) (A : Option Addr) (n c : Nat) : (rcC r (.slice A n c)).all (·.oneCell') = true := by simp [Value.oneCell']
theorem rec_ret1 {fn : Func} (h : fn.results = #[.cell 2 77]) (tmps : Array Value) (w : World) (g : Nat) (r : Rc) (v : Value) (hp : tmps.getD 2 undef = .pointer (some ⟨g, 0, none⟩)) (hg : RcB w g r v) :
    (results fn tmps).run Tryz.prog w = .ok (rcV r v) w :=
  results_cell_row h tmps w g _ (rcC r v) (0, 0) _ hp hg Tryz.underlying77 rfl (rc_sz r v)
/-- What Record keeps. -/
structure Rr1 (w wr : World) (base g : Nat) (b : Int) (gc : Nat) (r : Rc) (tv : Value) : Prop where
  only : w.grownBy wr (some g)
  src : SrcOk wr base g b
  rb : RcB wr w.heap.size zeroRc (.slice none 0 0)
  cb : RcB wr gc r tv
  own : OwnE EP wr (gc + 1) tv r.ps
  h2 : w.heap.size < gc
  h3 : g < w.heap.size
  h4 : base ≤ w.heap.size
section
variable {w wr w' : World} {base g gc : Nat} {b b' : Int} {r r' : Rc} {tv : Value}
theorem Rr1.below (h : Rr1 w wr base g b gc r tv) (hb : Below wr.heap.size wr w') : Rr1 w w' base g b gc r tv := ⟨h.only.trans ⟨hb.os, hb.tape, hb.output, hb.size, fun i hi _ => hb.block i hi⟩, h.src.below hb, Blk.below h.rb hb, Blk.below h.cb hb, h.own.below hb, h.h2, h.h3, h.h4⟩
theorem Rr1.alloc (h : Rr1 w wr base g b gc r tv) (o : Obj) : Rr1 w (wr.alloc o) base g b gc r tv := h.below ((Below.refl _ _).alloc (Nat.le_refl _) o)
theorem Rr1.drew (h : Rr1 w wr base g b gc r tv) : Rr1 w wr.drew base g b gc r tv := h.below (Below.refl _ _).drew
theorem Rr1.step (h : Rr1 w wr base g b gc r tv) (hs : SrcOk w' base g b') (hg : wr.grownBy w' (some g)) : Rr1 w w' base g b' gc r tv :=
  ⟨h.only.trans hg, hs, Blk.grown h.rb hg (fun e => by injection e with e; have := h.h3; omega), Blk.grown h.cb hg (fun e => by injection e with e; have := h.h2; have := h.h3; omega), h.own.far hg (fun k hk e => by injection e with e; have := h.own.ge k hk; have := h.h2; have := h.h3; omega), h.h2, h.h3, h.h4⟩
theorem Rr1.more (h : Rr1 w wr base g b gc r tv) (hb : b ≤ b') : Rr1 w wr base g b' gc r tv := ⟨h.only, h.src.more hb, h.rb, h.cb, h.own, h.h2, h.h3, h.h4⟩
theorem Rr1.lt (h : Rr1 w wr base g b gc r tv) : g < wr.heap.size := src_lt h.src
theorem Rr1.put (h : Rr1 w wr base g b gc r tv) (i : Nat) (v : Value) (e : (rcC r tv).setIfInBounds i v = rcC r' tv) (ht : r'.ps = r.ps) : Rr1 w (wr.setCell ⟨gc, i, none⟩ v) base g b gc r' tv := by
  have h2 := h.h2
  have h3 := h.h3
  have h4 := h.h4
  have hx := Blk.put h.cb i v
  rw [e] at hx
  exact ⟨only_setCell h.only (.inr (by show w.heap.size ≤ gc; omega)) _, h.src.setCell (by show base ≤ gc; omega) (by show gc ≠ g; omega) _, Blk.put_other h.rb _ (by show w.heap.size ≠ gc; omega), hx, by rw [ht]; exact h.own.farCell (fun e => by have := h.own.ge _ e; omega) _, h2, h3, h4⟩
theorem Rr1.app (h : Rr1 w wr base g b gc r tv) (t : Pr) {v' : Value} (hg : wr.grownBy w' tv.ownBlock) (ho : OwnE EP w' (gc + 1) v' (r.ps ++ [t])) :
    RcB w' gc r tv ∧ Rr1 w (w'.setCell ⟨gc, 3, none⟩ v') base g b gc { r with ps := r.ps ++ [t] } v' := by
  have h2 := h.h2
  have h3 := h.h3
  have h4 := h.h4
  have hge := h.own.ge
  have hr : ∀ k, tv.ownBlock = some k → gc < k := fun k hk => by have := hge k hk; omega
  have cb : RcB w' gc r tv := Blk.grown h.cb hg (fun e => by have := hr _ e; omega)
  exact ⟨cb, only_setCell ⟨hg.os.trans h.only.os, hg.tape.trans h.only.tape, hg.output.trans h.only.output, Nat.le_trans h.only.size hg.size, fun i hi hne => (hg.block i (Nat.lt_of_lt_of_le hi h.only.size) (fun e => by have := hr _ e.symm; omega)).trans (h.only.block i hi hne)⟩ (.inr (by show w.heap.size ≤ gc; omega)) _,
    (h.src.grown hg (fun k e => by have := hr k e; omega)).setCell (by show base ≤ gc; omega) (by show gc ≠ g; omega) _, Blk.put_other (Blk.grown h.rb hg (fun e => by have := hr _ e; omega)) _ (by show w.heap.size ≠ gc; omega), Blk.put cb 3 v', ho.farCell (fun e => by have := ho.ge _ e; omega) _, h2, h3, h4⟩
end
def RecPost (w : World) (base g : Nat) (b : Int) (e : Ending) (w' : World) : Prop :=
  ∃ (x : Rm), e = .returned (rcV x.r x.sl) ∧ OwnE EP w' (w.heap.size + 1) x.sl x.r.ps ∧ SrcOk w' base g b ∧ w.grownBy w' (some g) ∧ x.r.ps.length ≤ 3
end Go.Proofs.YtollifnnpihfdaaGreatDoor

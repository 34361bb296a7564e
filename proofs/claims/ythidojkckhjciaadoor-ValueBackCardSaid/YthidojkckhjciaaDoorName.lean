/- The name of a pair: proper of package value, name of the reference. -/
import Derived.Test.YthidojkckhjciaaDoorSafe
namespace Go.Proofs.YthidojkckhjciaaDoor
open Go.RowKit
/-- A letter; a byte of a name. -/
def nma (c : UInt8) : Bool := decide (97 ≤ c.toNat) && decide (c.toNat ≤ 122)
def nmd (c : UInt8) : Bool := nma c || (decide (48 ≤ c.toNat) && decide (c.toNat ≤ 57)) || decide (c.toNat = 95)
def nameB (l : List UInt8) : Bool := match l with
  | [] => false
  | a :: r => decide (l.length ≤ 16) && nma a && r.all nmd
theorem nma_nmd {c : UInt8} (h : nma c = true) : nmd c = true := by unfold nmd; rw [h]; rfl
theorem all_step (p : UInt8 → Bool) (s : ByteArray) (k : Nat) (h : k < s.size) (hp : (s.data.toList.take k).all p = true) (hc : p s[k] = true) : (s.data.toList.take (k + 1)).all p = true := by
  rw [take_snoc s k h, List.all_append, hp]; simp [hc]
theorem all_stop (p : UInt8 → Bool) (s : ByteArray) (k : Nat) (h : k < s.size) (hc : p s[k] = false) : s.data.toList.all p = false := by
  rw [← Bool.not_eq_true]; intro hall
  have := (List.all_eq_true.1 hall) s[k] (Array.mem_toList_iff.2 (Array.getElem_mem (xs := s.data) h))
  rw [hc] at this; cases this
theorem name_eq (s : ByteArray) (h0 : 0 < s.size) : nameB s.data.toList = (decide (s.size ≤ 16) && nma s[0] && s.data.toList.all nmd) := by
  have hh : s.data.toList = s[0] :: s.data.toList.tail := by
    have : s.data.toList = s.data.toList.drop 0 := rfl
    rw [this, List.drop_eq_getElem_cons (by simpa using h0)]; rfl
  have hl : s.data.toList.length = s.size := Array.length_toList
  rw [hh] at hl ⊢
  unfold nameB
  rw [hl, List.all_cons]
  cases hn : nma s[0]
  · simp [hn]
  · simp [hn, nma_nmd hn]
theorem nmd_false {c : UInt8} (h : ¬ nmd c = true) : ¬ (97 ≤ (c.toNat : Int) ∧ (c.toNat : Int) ≤ 122) ∧ ¬ (48 ≤ (c.toNat : Int) ∧ (c.toNat : Int) ≤ 57) ∧ (c.toNat : Int) ≠ 95 := by
  unfold nmd nma at h; simp at h; omega
theorem nmd_true {c : UInt8} (h : nmd c = true) : (97 ≤ (c.toNat : Int) ∧ (c.toNat : Int) ≤ 122) ∨ (48 ≤ (c.toNat : Int) ∧ (c.toNat : Int) ≤ 57) ∨ (c.toNat : Int) = 95 := by
  unfold nmd nma at h; simp at h; omega
theorem nma_true {c : UInt8} : nma c = true ↔ 97 ≤ (c.toNat : Int) ∧ (c.toNat : Int) ≤ 122 := by
  unfold nma; simp; omega
theorem nameB_empty (s : ByteArray) (h : s.size = 0) : nameB s.data.toList = false := by
  have : s.data.toList = [] := List.eq_nil_of_length_eq_zero (Array.length_toList.trans h)
  rw [this]; rfl
theorem str_empty {s : ByteArray} (h : s.size = 0) : s.toList = [] := by
  rw [ByteArray.toList_eq]; exact List.eq_nil_of_length_eq_zero (Array.length_toList.trans h)
theorem str_nonempty {s : ByteArray} (h : 0 < s.size) : s.toList ≠ [] := fun e => by
  rw [ByteArray.toList_eq] at e
  have : s.data.toList.length = s.size := Array.length_toList
  rw [e] at this; simp at this; omega
set_option maxHeartbeats 1000000 in
theorem proper_loop (s : ByteArray) (w : World) (h0 : 0 < s.size) (h16 : s.size ≤ 16) (ha : nma s[0] = true) :
    Calls Tryd.prog 31 #[.string s] w fun e w' => e = .returned (.bool (nameB s.data.toList)) ∧ w = w' := by
  have HN := Lib.hid (name_eq s h0)
  have HA := Lib.hid ha
  obtain ⟨a1, a2⟩ := nma_true.1 ha
  have e0 : s.toList.isEmpty = false := by simpa using str_nonempty h0
  have e1 : s.toList ≠ [] := str_nonempty h0
  have d1 : decide (16 < (s.size : Int)) = false := by simp; omega
  have d2 : decide ((s[0].toNat : Int) < 97) = false := by simp; omega
  have d3 : decide (122 < (s[0].toNat : Int)) = false := by simp; omega
  clear ha
  go_enter Tryd.func31, Tryd.ntmps31
  go_wp2
  go_loop [24] (fun i => ∃ k : Nat, k ≤ s.size ∧ i = .int .i64 k ∧ Hid ((s.data.toList.take k).all nmd = true)) (fun i => s.size - (intOf i).toNat)
  case atStart => exact ⟨0, Nat.zero_le _, rfl, rfl⟩
  case round =>
    obtain ⟨k, hk, rfl, hsafe⟩ := hrel
    by_cases hlt : k < s.size
    · by_cases hc : nmd s[k] = true
      · have H := Lib.hid (all_step nmd s k hlt hsafe.out hc)
        have hc3 := Lib.hid (nmd_true hc)
        clear hc d1 d2 d3 e0 e1 a1 a2
        rcases hc3.out with ⟨c1, c2⟩ | ⟨c1, c2⟩ | c1
        · go_wp2
          go_round
          case rel => exact ⟨k + 1, by omega, by go_num, H⟩
          case measure => simp [intOf]; omega
        · go_wp2
          go_round
          case rel => exact ⟨k + 1, by omega, by go_num, H⟩
          case measure => simp [intOf]; omega
        · have c2 : ((s[k].toNat : Int) != 95) = false := by simp [c1]
          have c3 : (s[k].toNat : Int) ≤ 95 := by omega
          have c4 : 95 ≤ (s[k].toNat : Int) := by omega
          clear c1
          go_wp2
          go_round
          case rel => exact ⟨k + 1, by omega, by go_num, H⟩
          case measure => simp [intOf]; omega
      · have H := Lib.hid (all_stop nmd s k hlt (by simpa using hc))
        obtain ⟨c1, c2, c3⟩ := nmd_false hc
        have c4 : ((s[k].toNat : Int) != 95) = true := by simp [c3]
        have C3 := Lib.hid c3
        clear hc d1 d2 d3 e0 e1 a1 a2 c3
        have hcases : (s[k].toNat : Int) < 48 ∨ (57 < (s[k].toNat : Int) ∧ (s[k].toNat : Int) < 97) ∨ 122 < (s[k].toNat : Int) := by omega
        clear c1 c2
        rcases hcases with c1 | ⟨c1, c2⟩ | c1
        all_goals
          go_wp2
          go_ret
          exact ⟨retB (by rw [HN.out, H.out]; simp), rfl⟩
    · go_wp2
      go_ret
      exact ⟨retB (by rw [HN.out, HA.out, ← take_all s k (by omega), hsafe.out]; simp; omega), rfl⟩
set_option maxHeartbeats 1000000 in
theorem proper_no (s : ByteArray) (w : World) (hm : s.size ≤ maxLen) (h : s.size = 0 ∨ 16 < s.size ∨ (∃ _ : 0 < s.size, s.size ≤ 16 ∧ nma s[0] = false)) :
    Calls Tryd.prog 31 #[.string s] w fun e w' => e = .returned (.bool (nameB s.data.toList)) ∧ w = w' := by
  unfold maxLen at hm
  rcases h with h | h | ⟨h0, h16, ha⟩
  · have H := Lib.hid (nameB_empty s h)
    have e0 : s.toList.isEmpty = true := by simpa using str_empty h
    have e1 : s.toList = [] := str_empty h
    clear h
    go_enter Tryd.func31, Tryd.ntmps31
    go_wp2
    go_ret
    exact ⟨retB H.out.symm, rfl⟩
  · have H := Lib.hid (show nameB s.data.toList = false by rw [name_eq s (by omega)]; simp; omega)
    have e0 : s.toList.isEmpty = false := by simpa using str_nonempty (show 0 < s.size by omega)
    have e1 : s.toList ≠ [] := str_nonempty (by omega)
    have d1 : decide (16 < (s.size : Int)) = true := by simp; omega
    go_enter Tryd.func31, Tryd.ntmps31
    go_wp2
    go_ret
    exact ⟨retB H.out.symm, rfl⟩
  · have H := Lib.hid (show nameB s.data.toList = false by rw [name_eq s (by omega), ha]; simp)
    have e0 : s.toList.isEmpty = false := by simpa using str_nonempty h0
    have e1 : s.toList ≠ [] := str_nonempty h0
    have hcs : (s[0].toNat : Int) < 97 ∨ (97 ≤ (s[0].toNat : Int) ∧ 122 < (s[0].toNat : Int)) := by
      have : ¬ (97 ≤ (s[0].toNat : Int) ∧ (s[0].toNat : Int) ≤ 122) := fun k => by rw [nma_true.2 k] at ha; cases ha
      omega
    clear ha
    rcases hcs with c1 | ⟨c0, c1⟩
    all_goals
      go_enter Tryd.func31, Tryd.ntmps31
      go_wp2
      go_ret
      exact ⟨retB H.out.symm, rfl⟩
theorem vproper (s : ByteArray) (w : World) (hm : s.size ≤ maxLen) : Calls Tryd.prog 31 #[.string s] w fun e w' => e = .returned (.bool (nameB s.data.toList)) ∧ w = w' := by
  by_cases h0 : 0 < s.size
  · by_cases h16 : s.size ≤ 16
    · cases ha : nma s[0]
      · exact proper_no s w hm (.inr (.inr ⟨h0, h16, ha⟩))
      · exact proper_loop s w h0 h16 ha
    · exact proper_no s w hm (.inr (.inl (by omega)))
  · exact proper_no s w hm (.inl (by omega))
set_option maxHeartbeats 2000000 in
theorem rname_loop (s : ByteArray) (w : World) (h0 : 0 < s.size) (h16 : s.size ≤ 16) :
    Calls Tryd.prog 32 #[.string s] w fun e w' => e = .returned (.bool (nameB s.data.toList)) ∧ w = w' := by
  have HN := Lib.hid (name_eq s h0)
  have d0 : decide ((s.size : Int) < 1) = false := by simp; omega
  have d1 : decide (16 < (s.size : Int)) = false := by simp; omega
  go_enter Tryd.func32, Tryd.ntmps32
  go_wp2
  go_loop [3] (fun i => ∃ k : Nat, k ≤ s.size ∧ i = .int .i64 k ∧ Hid ((s.data.toList.take k).all nmd = true ∧ (0 < k → nma s[0] = true))) (fun i => s.size - (intOf i).toNat)
  case atStart => exact ⟨0, Nat.zero_le _, rfl, rfl, fun h => by omega⟩
  case round =>
    obtain ⟨k, hk, rfl, hsafe⟩ := hrel
    by_cases hlt : k < s.size
    · by_cases hc : nma s[k] = true
      · have H := Lib.hid (all_step nmd s k hlt hsafe.out.1 (nma_nmd hc))
        have HC := Lib.hid hc
        obtain ⟨c1, c2⟩ := nma_true.1 hc
        clear hc d0 d1
        go_wp2
        go_round
        case rel => exact ⟨k + 1, by omega, by go_num, H.out, fun _ => by
          by_cases hk0 : k = 0
          · subst hk0; exact HC.out
          · exact hsafe.out.2 (by omega)⟩
        case measure => simp [intOf]; omega
      · have hna : (s[k].toNat : Int) < 97 ∨ (97 ≤ (s[k].toNat : Int) ∧ 122 < (s[k].toNat : Int)) := by
          have : ¬ (97 ≤ (s[k].toNat : Int) ∧ (s[k].toNat : Int) ≤ 122) := fun e => hc (nma_true.2 e)
          omega
        by_cases hk0 : k = 0
        · subst hk0
          have H := Lib.hid (show nameB s.data.toList = false by rw [HN.out]; simp [hc])
          clear hc d0 d1
          rcases hna with c1 | ⟨c1, c2⟩
          · go_wp2
            go_ret
            exact ⟨retB H.out.symm, rfl⟩
          · have c3 : decide ((s[0].toNat : Int) ≤ 122) = false := by simp; omega
            go_wp2
            go_ret
            exact ⟨retB H.out.symm, rfl⟩
        · have k0 : (0 : Int) < (k : Int) := by omega
          by_cases hd : nmd s[k] = true
          · have H := Lib.hid (all_step nmd s k hlt hsafe.out.1 hd)
            have h3 : (48 ≤ (s[k].toNat : Int) ∧ (s[k].toNat : Int) ≤ 57) ∨ (s[k].toNat : Int) = 95 := by
              rcases nmd_true hd with h | h
              · omega
              · exact h
            clear hc hd d0 d1 hk0
            have hna' : (s[k].toNat : Int) < 97 := by omega
            clear hna
            rcases h3 with ⟨c1, c2⟩ | c1
            · go_wp2
              go_round
              case rel => exact ⟨k + 1, by omega, by go_num, H.out, fun _ => hsafe.out.2 (by omega)⟩
              case measure => simp [intOf]; omega
            · have c2 : ((s[k].toNat : Int) == 95) = true := by simp [c1]
              have c4 : 57 < (s[k].toNat : Int) := by omega
              have c3 : 48 ≤ (s[k].toNat : Int) := by omega
              clear c1
              go_wp2
              go_round
              case rel => exact ⟨k + 1, by omega, by go_num, H.out, fun _ => hsafe.out.2 (by omega)⟩
              case measure => simp [intOf]; omega
          · have H := Lib.hid (show nameB s.data.toList = false by rw [HN.out, all_stop nmd s k hlt (by simpa using hd)]; simp)
            obtain ⟨c1, c2, c3⟩ := nmd_false hd
            have c4 : ((s[k].toNat : Int) == 95) = false := by simp [c3]
            have hcases : (s[k].toNat : Int) < 48 ∨ (57 < (s[k].toNat : Int) ∧ (s[k].toNat : Int) < 97) ∨ 122 < (s[k].toNat : Int) := by omega
            clear c1 c2 c3 hc hd d0 d1 hk0 hna
            rcases hcases with c1 | ⟨c1, c2⟩ | c1
            · go_wp2
              go_ret
              exact ⟨retB H.out.symm, rfl⟩
            · have c3 : decide ((s[k].toNat : Int) ≤ 57) = false := by simp; omega
              go_wp2
              go_ret
              exact ⟨retB H.out.symm, rfl⟩
            · have c3 : decide ((s[k].toNat : Int) ≤ 57) = false := by simp; omega
              have c5 : decide ((s[k].toNat : Int) ≤ 122) = false := by simp; omega
              go_wp2
              go_ret
              exact ⟨retB H.out.symm, rfl⟩
    · go_wp2
      go_ret
      exact ⟨retB (by rw [HN.out, hsafe.out.2 (by omega), ← take_all s k (by omega), hsafe.out.1]; simp; omega), rfl⟩
theorem rname (s : ByteArray) (w : World) (hm : s.size ≤ maxLen) : Calls Tryd.prog 32 #[.string s] w fun e w' => e = .returned (.bool (nameB s.data.toList)) ∧ w = w' := by
  by_cases h0 : 0 < s.size
  · by_cases h16 : s.size ≤ 16
    · exact rname_loop s w h0 h16
    · unfold maxLen at hm
      have H := Lib.hid (show nameB s.data.toList = false by rw [name_eq s (by omega)]; simp; omega)
      go_enter Tryd.func32, Tryd.ntmps32
      go_wp2
      go_ret
      exact ⟨retB H.out.symm, rfl⟩
  · have H := Lib.hid (nameB_empty s (by omega))
    go_enter Tryd.func32, Tryd.ntmps32
    go_wp2
    go_ret
    exact ⟨retB H.out.symm, rfl⟩
end Go.Proofs.YthidojkckhjciaaDoor

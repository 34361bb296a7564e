/- The walk of ReadNumber of the reference. -/
import Derived.Test.YtnpaoepkpdileaaDoorReadN
namespace Go.Proofs.YtnpaoepkpdileaaDoor
open Go.RowKit
theorem digB_lo {c : UInt8} (h : (c.toNat : Int) < 48) : digB c = false := by unfold digB; simp; omega
theorem digB_hi {c : UInt8} (h : 57 < (c.toNat : Int)) : digB c = false := by unfold digB; simp; omega
theorem digB_in {c : UInt8} (h : 48 ≤ (c.toNat : Int)) (k : (c.toNat : Int) ≤ 57) : digB c = true := by unfold digB; simp; omega
theorem rdN_short {s : ByteArray} (hl : s.size ≤ 20) : rdN s = if s.size = 0 then 0 else if (s.data.toList.head?.map (·.toNat)) = some 45 then rdW s.data.toList else wrap64 (-(rdW s.data.toList)) := by
  unfold rdN; split
  · rfl
  · rw [if_neg (by omega)]
theorem head_eq {s : ByteArray} (h : 0 < s.size) : s.data.toList.head? = some s[0] := by
  have h' : 0 < s.data.toList.length := by rw [Array.length_toList]; exact h
  rw [List.head?_eq_getElem?, List.getElem?_eq_getElem h']; rfl
def RdPost (s : ByteArray) (w : World) (e : Ending) (w' : World) : Prop := e = .returned (.tuple #[.int .i64 (rdN s), .bool ((numS (rdN s)).toList == s.toList)]) ∧ w = w'
attribute [local irreducible] numS rdN rdW
set_option maxRecDepth 100000 in
set_option maxHeartbeats 2000000 in
theorem rread (s : ByteArray) (w : World) (hs : s.size ≤ 1000000) : Calls Tryd.prog 48 #[.string s] w (RdPost s w) := by
  by_cases hl : s.size ≤ 20
  · have HD := Lib.hid (rdN_short hl)
    go_enter Tryd.func48, Tryd.ntmps48
    go_wp2_with fail
    go_loop [4, 5] (fun n i => ∃ k : Nat, k ≤ s.size ∧ i = .int .i64 k ∧ n = .int .i64 (rdW (s.data.toList.take k))) (fun _ i => s.size - (intOf i).toNat)
    case atStart => exact ⟨0, Nat.zero_le _, rfl, by unfold rdW; rfl⟩
    case round =>
      obtain ⟨k, hk, rfl, rfl⟩ := hrel
      have hb := rdW_bd (s.data.toList.take k)
      by_cases hlt : k < s.size
      · have HN := Lib.hid (show rdW (s.data.toList.take (k + 1)) = rdStep (rdW (s.data.toList.take k)) s[k] by rw [take_snoc s k hlt, rdW_snoc])
        have hc : (s[k].toNat : Int) ≤ 255 := by have := s[k].toNat_lt; omega
        generalize rdW (s.data.toList.take k) = n at *
        by_cases h1 : 48 ≤ (s[k].toNat : Int)
        · by_cases h2 : (s[k].toNat : Int) ≤ 57
          · have HG := Lib.hid (digB_in h1 h2)
            go_wp2_with fail
            go_round
            case rel => exact ⟨k + 1, by omega, by go_num, by rw [HN.out, rdStep, HG.out]; rfl⟩
            case measure => simp [intOf]; omega
          · have HG := Lib.hid (digB_hi (show 57 < (s[k].toNat : Int) by omega))
            go_wp2_with fail
            go_round
            case rel => exact ⟨k + 1, by omega, by go_num, by rw [HN.out, rdStep, HG.out]; rfl⟩
            case measure => simp [intOf]; omega
        · have HG := Lib.hid (digB_lo (show (s[k].toNat : Int) < 48 by omega))
          go_wp2_with fail
          go_round
          case rel => exact ⟨k + 1, by omega, by go_num, by rw [HN.out, rdStep, HG.out]; rfl⟩
          case measure => simp [intOf]; omega
      · obtain rfl : k = s.size := by omega
        rw [take_all s _ (Nat.le_refl _)] at *
        by_cases h0 : 0 < s.size
        · have hd := head_eq h0
          rw [hd] at HD
          clear hd
          generalize rdW s.data.toList = n at *
          by_cases h45 : (s[0].toNat : Int) = 45
          · have hbq : ((s[0].toNat : Int) != 45) = false := by simpa using h45
            have HE := Lib.hid (show rdN s = n by rw [HD.out, if_neg (by omega), if_pos (by simp; omega)])
            clear h45
            go_wp2_with fail
            refine (rnumber n hb.1 hb.2 _).mono ?_
            rintro e w1 ⟨rfl, rfl⟩
            go_wp2_with fail
            go_ret2
            exact ⟨by rw [HE.out]; rfl, rfl⟩
          · have hbq : ((s[0].toNat : Int) != 45) = true := by simpa using h45
            have HE := Lib.hid (show rdN s = wrap64 (-n) by rw [HD.out, if_neg (by omega), if_neg (by simp; omega)])
            have hn := i64_bd (-n)
            clear h45
            go_wp2_with fail
            refine (rnumber (wrap64 (-n)) hn.1 hn.2 _).mono ?_
            rintro e w1 ⟨rfl, rfl⟩
            go_wp2_with fail
            go_ret2
            exact ⟨by rw [HE.out]; rfl, rfl⟩
        · have HE := Lib.hid (show rdN s = 0 by rw [HD.out, if_pos (by omega)])
          have he : s.data.toList = [] := List.eq_nil_of_length_eq_zero (by rw [Array.length_toList]; show s.size = 0; omega)
          have hn0 : rdW s.data.toList = 0 := by rw [he]; unfold rdW; rfl
          rw [hn0] at *
          clear he hn0 HD
          go_wp2_with fail
          refine (rnumber 0 (by omega) (by omega) _).mono ?_
          rintro e w1 ⟨rfl, rfl⟩
          go_wp2_with fail
          go_ret2
          exact ⟨by rw [HE.out]; rfl, rfl⟩
  · have HE := Lib.hid (show rdN s = 0 by unfold rdN; rw [if_neg (by omega), if_pos (by omega)])
    have h0 : 0 < s.size := by omega
    have hlb : decide ((s.size : Int) ≤ 20) = false := by simp; omega
    go_enter Tryd.func48, Tryd.ntmps48
    go_wp2_with fail
    go_loop [4, 5] (fun n i => i = .int .i64 0 ∧ n = .int .i64 0) (fun _ _ => 0)
    case atStart => exact ⟨rfl, rfl⟩
    case round =>
      obtain ⟨rfl, rfl⟩ := hrel
      by_cases h45 : (s[0].toNat : Int) = 45
      · have hbq : ((s[0].toNat : Int) != 45) = false := by simpa using h45
        clear h45
        go_wp2_with fail
        refine (rnumber 0 (by omega) (by omega) _).mono ?_
        rintro e w1 ⟨rfl, rfl⟩
        go_wp2_with fail
        go_ret2
        exact ⟨by rw [HE.out]; rfl, rfl⟩
      · have hbq : ((s[0].toNat : Int) != 45) = true := by simpa using h45
        clear h45
        go_wp2_with fail
        refine (rnumber 0 (by omega) (by omega) _).mono ?_
        rintro e w1 ⟨rfl, rfl⟩
        go_wp2_with fail
        go_ret2
        exact ⟨by rw [HE.out]; rfl, rfl⟩
end Go.Proofs.YtnpaoepkpdileaaDoor
